/-
  The law TopRetimed over the ghost machine.
-/
import Derived.Test.YtjjcgaompnjbdaaDoorTrWG
namespace Go.Gh
set_option linter.unusedSimpArgs false
set_option linter.unusedVariables false
set_option maxHeartbeats 4000000
open Go.RowKit
set_option maxRecDepth 4000

theorem rows_sm {e e' : Ev} (h : e'.rows = e.rows) (hs : e.L.length ≤ 1048576 ∧ ∀ x ∈ e.L, smR x.2) : e'.L.length ≤ 1048576 ∧ ∀ x ∈ e'.L, smR x.2 := by
  have hl : e'.L.length = e.L.length := by
    have := congrArg List.length h
    simpa [Ev.rows] using this
  refine ⟨by omega, fun x hx => ?_⟩
  have : x.2 ∈ e.rows := by rw [← h]; exact List.mem_map.2 ⟨x, hx, rfl⟩
  obtain ⟨z, hz, e2⟩ := List.mem_map.1 this
  rw [← e2]; exact hs.2 z hz
theorem kc_mem (f : Int → Int) : ∀ (C : List Cm) (k : Int), ∀ c ∈ kc f k C, ∃ c0 ∈ C, c.au = c0.au ∧ c.tx = c0.tx
  | [], _, c, h => by simp [kc] at h
  | c1 :: r, k, c, h => by
    simp only [kc] at h
    split at h
    · obtain ⟨c0, h1, h2⟩ := kc_mem f r k c h
      exact ⟨c0, List.mem_cons_of_mem _ h1, h2⟩
    · rcases List.mem_cons.1 h with h | h
      · exact ⟨c1, List.mem_cons_self, by rw [h], by rw [h]⟩
      · obtain ⟨c0, h1, h2⟩ := kc_mem f r (k + 1) c h
        exact ⟨c0, List.mem_cons_of_mem _ h1, h2⟩
theorem sm_to {d x : Dc} {to : Int} {drop : Bool} (hs : SmD d) (k : DcTo d to drop x) (ht : 0 ≤ to ∧ to ≤ 255) : SmD x := by
  obtain ⟨f, _, hC⟩ := k.cm
  refine ⟨by rw [k.ti]; exact hs.ti, by rw [k.la]; exact hs.la, by rw [k.rt]; exact ht, by rw [k.R]; exact hs.R, ⟨by rw [k.len]; exact hs.E.1, fun e he => ?_⟩, ⟨by rw [hC]; exact Nat.le_trans (kc_len f _ _) hs.C.1, fun c hc => ?_⟩⟩
  · obtain ⟨j, hj, rfl⟩ := List.getElem_of_mem he
    have hj' : j < d.E.length := by rw [← k.len]; exact hj
    have e := k.ev j hj'
    rw [getElem!_pos x.E j hj] at e
    obtain ⟨h1, h2, h3, h4⟩ := hs.E.2 _ (bang_mem hj')
    exact ⟨by rw [e.rg]; exact h1, by rw [e.sk]; exact h2, by rw [e.kd]; exact h3, rows_sm e.rows h4⟩
  · rw [hC] at hc
    obtain ⟨c0, h1, h2, h3⟩ := kc_mem f _ _ c hc
    have := hs.C.2 c0 h1
    exact ⟨by rw [h2]; exact this.1, by rw [h3]; exact this.2⟩
theorem geq_s2 (n : Nat) (a b c e : Int) : geqIn (n + 1) (.parts [(0, none, .int), (1, none, .int)]) (s2 a b) (s2 c e) = some (decide (a = c ∧ b = e)) := by
  have h0 : geqIn (n + 1) (.parts [(0, none, .int), (1, none, .int)]) (s2 a b) (s2 c e) = match geqIn n .int (.int .i64 a) (.int .i64 c) with
    | some true => (match geqIn n .int (.int .i64 b) (.int .i64 e) with
      | some true => some true
      | z => z)
    | z => z := rfl
  rw [h0]
  simp only [geq_int]
  by_cases h1 : a = c <;> by_cases h2 : b = e <;> simp [h1, h2]
theorem gb_neS2 {a b c e : Int} : gbin .neq (some (.parts [(0, none, .int), (1, none, .int)])) (s2 a b) (s2 c e) = some (.bool (decide (¬ (a = c ∧ b = e)))) := by
  have := geq_s2 11 a b c e
  simp only [gbin, s2, geq] at this ⊢
  rw [this]; simp
theorem SpOk.timA {a b i o i' o' : Int} (h : SpOk a b i o i' o') : timF a i = (i * tk a, 0) := by
  have h1 := h.ta; have h2 := h.di; have h3 := h.old
  unfold timF
  rw [if_neg (by omega), if_neg (by omega)]
theorem SpOk.timB {a b i o i' o' : Int} (h : SpOk a b i o i' o') : timF b i' = (i' * tk b, 0) := by
  have h1 := h.tb; have h2 := h.di'; have h3 := h.new
  unfold timF
  rw [if_neg (by omega), if_neg (by omega)]
theorem drV_eq (p : Int × Int × Int) : Value.agg (drC p).toArray = spV' p.1 p.2.1 p.2.2 := rfl
theorem spn_first : spnF 3 2 25 50 = ((24, 48), 0) := by decide
/-- a frame of which only what is asked for is kept: long frames make walks slow -/
theorem Gw_fr {run : Fr → GHeap → GOp → Option (Value × GHeap)} {l : List GOper} {K : Fr → GHeap → Prop} {fr : Fr} {H : GHeap} (P : Fr → Prop) (h : P fr) (k : ∀ fr', P fr' → Gw run l K fr' H) : Gw run l K fr H := k fr h
theorem retimed_ok {H : GHeap} (hw : H.wf) {d : Dc} (hd : DcR H d) (hs : SmD d) {to : Int} (ht : 0 ≤ to ∧ to ≤ 255) :
    ∃ r H', gev G 3 [dcV d, .int .u8 to] H = some (r, H') ∧ r = .bool true := by
  refine gev_GW (f := 3) rfl fun Post hPost => ?_
  have hlim := hw.1
  have fd := dc_cflat hd
  have hyes : ∀ {H'}, Post (.bool true) H' := hPost _ _ rfl
  clear hPost
  simp only [frameOf, Nat.reduceAdd]
  repeat' (first | refine zn ?_ | refine zK rfl ?_ | refine zP rfl ?_ | ((first | refine zm ?_ | skip); intro _; intros; simp (disch := first | exact zd | fail) only [↓yS, yT, gresults, gone, ↓reduceIte, Nat.reduceEqDiff, Nat.reduceAdd, Nat.reduceMul, reduceCtorEq, Int.reduceToNat, g3, RDc, RS, fd]; first | (rename_i K k; (first | refine yC (k _ _ ?_) | refine zg (k _ ?_)); clear k K) | (rename_i A B C D a b c d; (first | refine zx (a ?_) | refine zy (b ?_) | refine zz (fun hc => c ?_) (fun hc => d ?_) | refine zv (b ?_) | refine zw (a ?_)) <;> clear a b c d A B C D <;> try simp only [yL] at hc)) | refine zA ?_ | refine zB ?_ | refine zF ?_)
  refine Gw_s fun K' hK' => G1_call (by simp only [gtarget, ↓GArg.ev, ↓evs, ↓Tr.get_set, Nat.reduceEqDiff, if_true, if_false, ↓reduceIte, Option.map_some, RS]; rfl) (one_of (spn_ok' (a := 3) (b := 2) (i := 25) (o := 50) (by decide) (by decide) _)) fun r1 H1 hq => hK' _ _ ?_
  obtain ⟨rfl, rfl⟩ := hq
  rw [spn_first]
  unfold spV
  have hne : decide (¬ ((24 : Int) = 24 ∧ (48 : Int) = 48)) = false := rfl
  repeat' (first | refine zn ?_ | refine zK rfl ?_ | refine zP rfl ?_ | ((first | refine zm ?_ | skip); intro _; intros; simp (disch := first | exact zd | fail) only [↓yS, yT, gresults, gone, ↓reduceIte, Nat.reduceEqDiff, Nat.reduceAdd, Nat.reduceMul, reduceCtorEq, Int.reduceToNat, g3, RDc, RS, gb_neS2, hne]; first | (rename_i K k; (first | refine yC (k _ _ ?_) | refine zg (k _ ?_)); clear k K) | (rename_i A B C D a b c d; (first | refine zx (a ?_) | refine zy (b ?_) | refine zz (fun hc => c ?_) (fun hc => d ?_) | refine zv (b ?_) | refine zw (a ?_)) <;> clear a b c d A B C D <;> try simp only [yL] at hc)) | refine zA ?_ | refine zB ?_ | refine zF ?_)
  obtain ⟨H1, hH1⟩ : ∃ H1, H1 = ((H.add (some (.cells (dcC d) 0 true))).add (some (.cells [.int .i64 0, .int .i64 0] 0 true))).put (H.len + 1) (.cells (s2C 24 48) 0 true) := ⟨_, rfl⟩
  have hS1 : Same H H1 := hH1 ▸ (((Same.refl hw).add _).add _).put (by omega) (by simp only [len_add]; omega) _
  have hl1 : H1.len = H.len + 2 := by rw [hH1]; simp only [len_put, len_add]
  have m0 : H1.mine H.len = some (dcC d, 0) := by rw [hH1, mine_put_ne (by omega), mine_add_ne (by rw [len_add]; omega), mine_add_eq rfl hw.1]
  rw [← hH1]
  clear hH1
  refine Gw_s fun K' hK' => G1_call (by simp only [gtarget, ↓GArg.ev, ↓evs, ↓Tr.get_set, Nat.reduceEqDiff, if_true, if_false, ↓reduceIte, Option.map_some]; rfl) (fewer_ok hw hS1 hd hs) fun r2 H2 hq => hK' _ _ ?_
  obtain ⟨d', rfl, hd', hs', hS12⟩ := hq
  clear hd hs fd
  have hS2 := hS1.trans hS12
  have m02 := (hS12.mine (show H.len < H1.len by omega)).trans m0
  have f1 := hd'.rg.flat
  have f2 := hd'.ev.rd.flat
  have f3 := hd'.cm.flat
  have gs2 : gsetn (dcC d) 0 8 (dcV d') = some (dcC d') := gsetn_all rfl rfl (by simp [flatV_int, flatV_str, flatV_bool, f1, f2, f3])
  have hl2 := hS12.len
  have hS3 : Same H (H2.put H.len (.cells (dcC d') 0 true)) := hS2.put (Nat.le_refl _) (by omega) _
  have m3 : (H2.put H.len (.cells (dcC d') 0 true)).mine H.len = some (dcC d', 0) := mine_put_same (mine_obj m02).1
  have r8 : ∀ {K : GHeap} {i : Nat} {y : Dc}, K.mine i = some (dcC y, 0) → K.rdn i 0 8 = some (dcV y) := fun h => by
    simp only [GHeap.rdn, GHeap.cs, (mine_obj h).2, Option.bind_some]
    rfl
  have q8 := r8 m3
  have hl3 : H1.len ≤ (H2.put H.len (.cells (dcC d') 0 true)).len := by rw [len_put]; exact hl2
  generalize hH3 : H2.put H.len (.cells (dcC d') 0 true) = H3 at *
  repeat' (first | refine zn ?_ | refine zK rfl ?_ | refine zP rfl ?_ | ((first | refine zm ?_ | skip); intro _; intros; simp (disch := first | exact zd | fail) only [↓yS, yT, gresults, gone, ↓reduceIte, Nat.reduceEqDiff, Nat.reduceAdd, Nat.reduceMul, reduceCtorEq, Int.reduceToNat, g3, m02, gs2, hH3, q8]; first | (rename_i K k; (first | refine yC (k _ _ ?_) | refine zg (k _ ?_)); clear k K) | (rename_i A B C D a b c d; (first | refine zx (a ?_) | refine zy (b ?_) | refine zz (fun hc => c ?_) (fun hc => d ?_) | refine zv (b ?_) | refine zw (a ?_)) <;> clear a b c d A B C D <;> try simp only [yL] at hc)) | refine zA ?_ | refine zB ?_ | refine zF ?_)
  clear m02 gs2 hH3 m0 hS12 hS2
  refine Gw_s fun K' hK' => G1_call (by simp only [gtarget, ↓GArg.ev, ↓evs, ↓Tr.get_set, Nat.reduceEqDiff, if_true, if_false, ↓reduceIte, Option.map_some]; rfl) (retime_ok hS3.wf (hd'.later hw hS3) hs' ht) fun r4 H4 hq => hK' _ _ ?_
  obtain ⟨hS34, hq⟩ := hq
  have hS4 := hS3.trans hS34
  have hw4 := hS4.wf
  have hlim4 := hw4.1
  have hz8 : [Value.string ⟨#[]⟩, .string ⟨#[]⟩, .int .u8 0, .bool false, .int .i64 0, .slice none 0 0, .slice none 0 0, .slice none 0 0] = z8 := rfl
  have gsz : gsetn z8 0 8 (.agg z8.toArray) = some z8 := gsetn_all rfl rfl (by simp [flatV, z8])
  rcases hq with ⟨x, s, D, L, rfl, hok, htk, hdr, hto, hx, hD, hT⟩ | ⟨s, n, rfl, hn⟩
  case inr =>
    repeat' (first | refine zn ?_ | refine zK rfl ?_ | refine zP rfl ?_ | ((first | refine zm ?_ | skip); intro _; intros; simp (disch := first | exact zd | fail) only [↓yS, yT, gresults, gone, ↓reduceIte, Nat.reduceEqDiff, Nat.reduceAdd, Nat.reduceMul, reduceCtorEq, Int.reduceToNat, g3, hz8, gsz]; first | (rename_i K k; (first | refine yC (k _ _ ?_) | refine zg (k _ ?_)); clear k K) | (rename_i A B C D a b c d; (first | refine zx (a ?_) | refine zy (b ?_) | refine zz (fun hc => c ?_) (fun hc => d ?_) | refine zv (b ?_) | refine zw (a ?_)) <;> clear a b c d A B C D <;> try simp only [yL] at hc)) | refine zA ?_ | refine zB ?_ | refine zF ?_)
    all_goals first | exact hyes | (exfalso; omega)
  have hokx := to_ok hok hto htk hdr
  have hsx := sm_to hs' hto ht
  have g1 := hx.rg.flat
  have g2 := hx.ev.rd.flat
  have g3' := hx.cm.flat
  have gs4 : gsetn z8 0 8 (dcV x) = some (dcC x) := gsetn_all rfl rfl (by simp [flatV_int, flatV_str, flatV_bool, g1, g2, g3'])
  obtain ⟨H5, hH5⟩ : ∃ H5, H5 = (H4.add (some (.cells z8 0 true))).put H4.len (.cells (dcC x) 0 true) := ⟨_, rfl⟩
  have hS45 : Same H4 H5 := hH5 ▸ (Same.refl hw4).new _ _
  have hS5 := hS4.trans hS45
  have m5 : H5.mine H4.len = some (dcC x, 0) := by
    rw [hH5, mine_put_same]
    exact (mine_obj (mine_add_eq rfl hlim4)).1
  have hl4 := hS34.len
  have m50 := ((hS34.trans hS45).mine (show H.len < H3.len by omega)).trans m3
  have q5 := r8 m5
  have hne2 : decide (¬ (0 : Int) = 0) = false := rfl
  repeat' (first | refine zn ?_ | refine zK rfl ?_ | refine zP rfl ?_ | ((first | refine zm ?_ | skip); intro _; intros; simp (disch := first | exact zd | fail) only [↓yS, yT, gresults, gone, ↓reduceIte, Nat.reduceEqDiff, Nat.reduceAdd, Nat.reduceMul, reduceCtorEq, Int.reduceToNat, g3, hz8, gs4, hH5.symm, q5]; first | (rename_i K k; (first | refine yC (k _ _ ?_) | refine zg (k _ ?_)); clear k K) | (rename_i A B C D a b c d; (first | refine zx (a ?_) | refine zy (b ?_) | refine zz (fun hc => c ?_) (fun hc => d ?_) | refine zv (b ?_) | refine zw (a ?_)) <;> clear a b c d A B C D <;> try simp only [yL] at hc)) | refine zA ?_ | refine zB ?_ | refine zF ?_)
  clear hH5
  have hl5 := hS45.len
  have hl45 : H4.len < H5.len := mine_lt hS5.wf m5
  refine Gw_s fun K' hK' => G1_call (by simp only [gtarget, ↓GArg.ev, ↓evs, ↓Tr.get_set, Nat.reduceEqDiff, if_true, if_false, ↓reduceIte, Option.map_some]; rfl) (dcheck_ok hS5.wf (hx.later hw4 hS45) hsx) fun r6 H6 hq => hK' _ _ ?_
  obtain ⟨⟨n, rfl, hn⟩, hS56⟩ := hq
  have hn0 := hn.2 hokx
  subst hn0
  have hS46 := hS45.trans hS56
  have hS6 := hS5.trans hS56
  have m6 := (hS56.mine hl45).trans m5
  have m60 := (hS56.mine (show H.len < H5.len by omega)).trans m50
  have slx : IsSl x.ev d'.E.length := by have := hx.ev.rd.rd.isSl; rwa [hto.len] at this
  have sld : IsSl d'.ev d'.E.length := hd'.ev.rd.rd.isSl
  have slD : IsSl s d'.E.length := hD.isSl
  have w6 : H6.rd H4.len 6 = some x.ev := mine_rd m6
  have w60 : H6.rd H.len 6 = some d'.ev := mine_rd m60
  have hEn := hs'.E.1
  have dd : decide (¬ ((d'.E.length : Int) = d'.E.length)) = false := by simp
  repeat' (first | refine zn ?_ | refine zK rfl ?_ | refine zP rfl ?_ | ((first | refine zm ?_ | skip); intro _; intros; simp (disch := first | exact zd | fail) only [↓yS, yT, gresults, gone, ↓reduceIte, Nat.reduceEqDiff, Nat.reduceAdd, Nat.reduceMul, reduceCtorEq, Int.reduceToNat, g3, w6, w60, slx.len, sld.len, slD.len, dd, hne2]; first | (rename_i K k; (first | refine yC (k _ _ ?_) | refine zg (k _ ?_)); clear k K) | (rename_i A B C D a b c d; (first | refine zx (a ?_) | refine zy (b ?_) | refine zz (fun hc => c ?_) (fun hc => d ?_) | refine zv (b ?_) | refine zw (a ?_)) <;> clear a b c d A B C D <;> try simp only [yL] at hc)) | refine zA ?_ | refine zB ?_ | refine zF ?_)
  have hrt := hs'.rt
  have hS46' := hS46
  refine GW_loop (fun k fr Hj => ∃ j : Nat, k = d'.E.length - j ∧ j ≤ d'.E.length ∧ fr.get 1 = some (.int .u8 to) ∧ fr.get 2 = some (.pointer (some ⟨H.len, 0, none⟩)) ∧ fr.get 7 = some (.pointer (some ⟨H4.len, 0, none⟩)) ∧ fr.get 63 = some (s) ∧ fr.get 64 = some (.int .i64 d'.E.length) ∧ fr.get 65 = some (.int .i64 j) ∧ Same H6 Hj) ?_ d'.E.length ?_
  rotate_left
  · refine ⟨0, by omega, by omega, ?_⟩
    simp only [↓yG, Nat.reduceEqDiff, ↓reduceIte, Int.natCast_add, Int.cast_ofNat_Int, Int.natCast_zero, true_and, and_true, Option.some.injEq, Value.int.injEq]
    exact Same.refl hS6.wf
  rintro k fr Hj ⟨j, rfl, hj, f1, f2, f7, f63, f64, f65, hSj⟩ J hJ
  have hwj := hSj.wf
  have hlimj := hwj.1
  have mj := (hSj.mine (mine_lt hS6.wf m6)).trans m6
  have mj0 := (hSj.mine (mine_lt hS6.wf m60)).trans m60
  have w6 : Hj.rd H4.len 6 = some x.ev := mine_rd mj
  have w60 : Hj.rd H.len 6 = some d'.ev := mine_rd mj0
  have w2 : Hj.rd H.len 2 = some (.int .u8 d'.rt) := mine_rd mj0
  by_cases hj1 : j < d'.E.length
  · obtain ⟨t1, t2, _⟩ := hT.new j hj1
    have eDl := hT.dl
    have hDj := GRd.rowN (f := drC) (s := 3) (l := D) (hD.same (hS46.trans hSj)) (fun _ => rfl) (by decide) (k := j) (by omega)
    rw [t2, drV_eq] at hDj
    simp only at hDj
    have hEl : x.E.length = d'.E.length := hT.len
    have sp := t1.sp
    have hex : ∀ {K : GHeap}, Same H6 K → K.rd (blk x.ev) (ofs x.ev + j * 7 + 1) = some (.int .i64 x.E[j]!.i) := fun h => (hx.ev.later hw4 (hS46.trans h)).row (k := j) (c := 1) (by omega) (by decide)
    have hed : ∀ {K : GHeap}, Same H6 K → K.rd (blk d'.ev) (ofs d'.ev + j * 7 + 1) = some (.int .i64 d'.E[j]!.i) := fun h => (hd'.ev.later hw (hS6.trans h)).row (k := j) (c := 1) (by omega) (by decide)
    obtain ⟨Hb, hHb⟩ : ∃ Hb, Hb = (Hj.add (some (.cells [.int .i64 0, .int .i64 0, .int .i64 0] 0 true))).put Hj.len (.cells (spC ((j : Int) + 1) (x.E[j]!.i * tk to - d'.E[j]!.i * tk d'.rt) (x.E[j]!.o * tk to - d'.E[j]!.o * tk d'.rt)) 0 true) := ⟨_, rfl⟩
    have hSb : Same Hj Hb := hHb ▸ (Same.refl hwj).new _ _
    have hS6b := hSj.trans hSb
    have hwb := hSb.wf
    have mb := (hSb.mine (mine_lt hwj mj)).trans mj
    have mb0 := (hSb.mine (mine_lt hwj mj0)).trans mj0
    have w6 : Hb.rd H4.len 6 = some x.ev := mine_rd mb
    have w60 : Hb.rd H.len 6 = some d'.ev := mine_rd mb0
    have w2 : Hb.rd H.len 2 = some (.int .u8 d'.rt) := mine_rd mb0
    have s1 : Hb.rd Hj.len 1 = some (.int .i64 (x.E[j]!.i * tk to - d'.E[j]!.i * tk d'.rt)) := by rw [hHb, rd_put_same]; rfl
    have hex1 := hex hS6b
    have hed1 := hed hS6b
    have tA := sp.timA
    have tB := sp.timB
    have hdrift := sp.drift
    obtain ⟨b1, b2, b3, b4⟩ : 0 ≤ x.E[j]!.i * tk to ∧ x.E[j]!.i * tk to ≤ 10378368000 ∧ 0 ≤ d'.E[j]!.i * tk d'.rt ∧ d'.E[j]!.i * tk d'.rt ≤ 10378368000 :=
      ⟨Int.mul_nonneg sp.new.1 (tk_range to).1, sp.ti', Int.mul_nonneg sp.old.1 (tk_range d'.rt).1, sp.ti⟩
    have hmono : 0 < j → x.E[j - 1]!.i ≤ x.E[j]!.i := fun h0 => by
      obtain ⟨p1, _⟩ := hT.new (j - 1) (by omega)
      refine p1.sp.mono sp ?_
      have := (hok.2.2.1.2 j hj1).2.2.1 h0
      unfold lessE at this
      omega
    have hexp : 0 < j → Hb.rd (blk x.ev) (ofs x.ev + (j - 1) * 7 + 1) = some (.int .i64 x.E[j - 1]!.i) := fun h => (hx.ev.later hw4 (hS46.trans hS6b)).row (k := j - 1) (c := 1) (by omega) (by decide)
    clear t2 sp hex hed
    generalize x.E[j - 1]!.i = xp at *
    generalize x.E[j]!.o = xo at *
    generalize d'.E[j]!.o = eo at *
    generalize x.E[j]!.i * tk to = B at *
    generalize d'.E[j]!.i * tk d'.rt = A at *
    generalize x.E[j]!.i = xi at *
    generalize d'.E[j]!.i = ei at *
    repeat' (first | (exfalso; omega) | refine zn ?_ | refine zK rfl ?_ | refine zP rfl ?_ | ((first | refine zm ?_ | skip); intro _; intros; simp (disch := first | exact zd | fail) only [↓yS, yT, gresults, gone, ↓reduceIte, Nat.reduceEqDiff, Nat.reduceAdd, Nat.reduceMul, reduceCtorEq, Int.reduceToNat, g3, f1, f2, f7, f63, f64, f65, RP, hHb.symm, w2, w60, hDj, slD.ia, sld.ia, hed1]; first | (rename_i K k; (first | refine yC (k _ _ ?_) | refine zg (k _ ?_)); clear k K) | (rename_i A B C D a b c d; (first | refine zx (a ?_) | refine zy (b ?_) | refine zz (fun hc => c ?_) (fun hc => d ?_) | refine zv (b ?_) | refine zw (a ?_)) <;> clear a b c d A B C D <;> try simp only [yL] at hc)) | refine zA ?_ | refine zB ?_ | refine zF ?_)
    refine Gw_s fun K' hK' => G1_call (by simp only [gtarget, ↓GArg.ev, ↓evs, ↓Tr.get_set, Nat.reduceEqDiff, if_true, if_false, ↓reduceIte, Option.map_some, f1, f2, f7, f63, f64, f65]; rfl) (one_of (time_ok hrt _)) fun r10 H10 hq => hK' _ _ ?_
    obtain ⟨rfl, rfl⟩ := hq
    rw [tA]
    unfold pr
    simp only
    clear w2 w60 hDj hed1
    have hjl : j < d'.E.length := hj1
    refine Gw_fr (fun fr => fr.get 1 = some (.int .u8 to) ∧ fr.get 2 = some (.pointer (some ⟨H.len, 0, none⟩)) ∧ fr.get 7 = some (.pointer (some ⟨H4.len, 0, none⟩)) ∧ fr.get 63 = some (s) ∧ fr.get 64 = some (.int .i64 d'.E.length) ∧ fr.get 65 = some (.int .i64 j) ∧ fr.get 10 = some (.int .i64 j) ∧ fr.get 11 = some (.pointer (some ⟨Hj.len, 0, none⟩)) ∧ fr.get 80 = some (.tuple #[.int .i64 A, .int .i64 0])) (by simp only [↓yG, Nat.reduceEqDiff, ↓reduceIte, Int.natCast_add, Int.cast_ofNat_Int, Int.natCast_zero, true_and, and_true, Option.some.injEq, Value.int.injEq, f1, f2, f7, f63, f64, f65]) ?_
    rintro fs ⟨f1, f2, f7, f63, f64, f65, f10, f11, f80⟩
    repeat' (first | refine zn ?_ | refine zK rfl ?_ | refine zP rfl ?_ | ((first | refine zm ?_ | skip); intro _; intros; simp (disch := first | exact zd | fail) only [↓yS, yT, gresults, gone, ↓reduceIte, Nat.reduceEqDiff, Nat.reduceAdd, Nat.reduceMul, reduceCtorEq, Int.reduceToNat, g3, f1, f2, f7, f63, f64, f65, f10, f11, f80, w6, slx.ia, hex1]; first | (rename_i K k; (first | refine yC (k _ _ ?_) | refine zg (k _ ?_)); clear k K) | (rename_i A B C D a b c d; (first | refine zx (a ?_) | refine zy (b ?_) | refine zz (fun hc => c ?_) (fun hc => d ?_) | refine zv (b ?_) | refine zw (a ?_)) <;> clear a b c d A B C D <;> try simp only [yL] at hc)) | refine zA ?_ | refine zB ?_ | refine zF ?_)
    refine Gw_s fun K' hK' => G1_call (by simp only [gtarget, ↓GArg.ev, ↓evs, ↓Tr.get_set, Nat.reduceEqDiff, if_true, if_false, ↓reduceIte, Option.map_some, f1, f2, f7, f63, f64, f65]; rfl) (one_of (time_ok ht _)) fun r11 H11 hq => hK' _ _ ?_
    obtain ⟨rfl, rfl⟩ := hq
    rw [tB]
    unfold pr
    simp only
    refine Gw_fr (fun fr => fr.get 1 = some (.int .u8 to) ∧ fr.get 2 = some (.pointer (some ⟨H.len, 0, none⟩)) ∧ fr.get 7 = some (.pointer (some ⟨H4.len, 0, none⟩)) ∧ fr.get 63 = some (s) ∧ fr.get 64 = some (.int .i64 d'.E.length) ∧ fr.get 65 = some (.int .i64 j) ∧ fr.get 10 = some (.int .i64 j) ∧ fr.get 11 = some (.pointer (some ⟨Hj.len, 0, none⟩)) ∧ fr.get 12 = some (.int .i64 A) ∧ fr.get 13 = some (.int .i64 0) ∧ fr.get 92 = some (.tuple #[.int .i64 B, .int .i64 0])) (by simp only [↓yG, Nat.reduceEqDiff, ↓reduceIte, Int.natCast_add, Int.cast_ofNat_Int, Int.natCast_zero, true_and, and_true, Option.some.injEq, Value.int.injEq, f1, f2, f7, f63, f64, f65, f10, f11, f80]) ?_
    rintro ft ⟨f1, f2, f7, f63, f64, f65, f10, f11, f12, f13, f92⟩
    repeat' (first | refine zn ?_ | refine zK rfl ?_ | refine zP rfl ?_ | ((first | refine zm ?_ | skip); intro _; intros; simp (disch := first | exact zd | fail) only [↓yS, yT, gresults, gone, ↓reduceIte, Nat.reduceEqDiff, Nat.reduceAdd, Nat.reduceMul, reduceCtorEq, Int.reduceToNat, g3, f1, f2, f7, f63, f64, f65, f10, f11, f12, f13, f92, w6, slx.ia, hex1, s1, hne2]; first | (rename_i K k; (first | refine yC (k _ _ ?_) | refine zg (k _ ?_)); clear k K) | (rename_i A B C D a b c d; (first | refine zx (a ?_) | refine zy (b ?_) | refine zz (fun hc => c ?_) (fun hc => d ?_) | refine zv (b ?_) | refine zw (a ?_)) <;> clear a b c d A B C D <;> try simp only [yL] at hc)) | refine zA ?_ | refine zB ?_ | refine zF ?_)
    have htb := tk_range to
    intro K' hK'; refine G1_callM (by simp only [gtarget, ↓GArg.ev, ↓evs, ↓Tr.get_set, Nat.reduceEqDiff, if_true, if_false, ↓reduceIte, Option.map_some, f1, f2, f7, f63, f64, f65, f10, f11, f12, f13]; rfl) (one_of (ticks_ok ht _)) fun r12 H12 hq => hK' _ _ ?_
    obtain ⟨rfl, rfl⟩ := hq
    rw [updown]
    have c1 : decide (tk to < 2 * (B - A)) = false := decide_eq_false (by omega)
    have c2 : decide (tk to < -2 * (B - A)) = false := decide_eq_false (by omega)
    repeat' (first | refine zn ?_ | refine zK rfl ?_ | refine zP rfl ?_ | ((first | refine zm ?_ | skip); intro _; intros; simp (disch := first | exact zd | fail) only [↓yS, yT, gresults, gone, ↓reduceIte, Nat.reduceEqDiff, Nat.reduceAdd, Nat.reduceMul, reduceCtorEq, Int.reduceToNat, g3, f1, f2, f7, f63, f64, f65, f10, f11, f12, f13, f92, w6, slx.ia, hex1, s1, hne2, c1]; first | (rename_i K k; (first | refine yC (k _ _ ?_) | refine zg (k _ ?_)); clear k K) | (rename_i A B C D a b c d; (first | refine zx (a ?_) | refine zy (b ?_) | refine zz (fun hc => c ?_) (fun hc => d ?_) | refine zv (b ?_) | refine zw (a ?_)) <;> clear a b c d A B C D <;> try simp only [yL] at hc)) | refine zA ?_ | refine zB ?_ | refine zF ?_)
    intro K' hK'; refine G1_callM (by simp only [gtarget, ↓GArg.ev, ↓evs, ↓Tr.get_set, Nat.reduceEqDiff, if_true, if_false, ↓reduceIte, Option.map_some, f1, f2, f7, f63, f64, f65, f10, f11, f12, f13]; rfl) (one_of (ticks_ok ht _)) fun r12 H12 hq => hK' _ _ ?_
    obtain ⟨rfl, rfl⟩ := hq
    rw [updown]
    have hfin : ∀ {fv : Fr}, fv.get 1 = some (.int .u8 to) → fv.get 2 = some (.pointer (some ⟨H.len, 0, none⟩)) → fv.get 7 = some (.pointer (some ⟨H4.len, 0, none⟩)) → fv.get 63 = some s → fv.get 64 = some (.int .i64 d'.E.length) → fv.get 65 = some (.int .i64 (j + 1)) → J fv H11 := fun g1 g2 g7 g63 g64 g65 =>
      hJ _ _ ⟨d'.E.length - (j + 1), by omega, j + 1, rfl, by omega, g1, g2, g7, g63, g64, by rw [g65]; simp, hS6b⟩
    by_cases h0 : 0 < j
    · have hx0 := hexp h0
      have hx1 : ((j : Int) - 1).toNat = j - 1 := by omega
      have hx2 : 0 ≤ (j : Int) - 1 := by omega
      have hx3 : (j : Int) - 1 < d'.E.length := by omega
      have hia := slx.ia (size := 7) (k := .i64) hx2 hx3
      rw [hx1] at hia
      have c3 : decide (0 < (j : Int)) = true := decide_eq_true (by omega)
      have c4 : decide (xi < xp) = false := decide_eq_false (by have := hmono h0; omega)
      repeat' (first | refine zn ?_ | refine zK rfl ?_ | refine zP rfl ?_ | ((first | refine zm ?_ | skip); intro _; intros; simp (disch := first | exact zd | fail) only [↓yS, yT, gresults, gone, ↓reduceIte, Nat.reduceEqDiff, Nat.reduceAdd, Nat.reduceMul, reduceCtorEq, Int.reduceToNat, g3, f1, f2, f7, f63, f64, f65, f10, f11, f12, f13, f92, w6, slx.ia, hx1, hx2, hx3, hx0, hex1, s1, hne2, c2, c3, c4]; first | (rename_i K k; (first | refine yC (k _ _ ?_) | refine zg (k _ ?_)); clear k K) | (rename_i A B C D a b c d; (first | refine zx (a ?_) | refine zy (b ?_) | refine zz (fun hc => c ?_) (fun hc => d ?_) | refine zv (b ?_) | refine zw (a ?_)) <;> clear a b c d A B C D <;> try simp only [yL] at hc)) | refine zA ?_ | refine zB ?_ | refine zF ?_)
      exact hfin (by simp only [↓yG, Nat.reduceEqDiff, ↓reduceIte, Int.natCast_add, Int.cast_ofNat_Int, Int.natCast_zero, true_and, and_true, Option.some.injEq, Value.int.injEq, f1, f2, f7, f63, f64]) (by simp only [↓yG, Nat.reduceEqDiff, ↓reduceIte, Int.natCast_add, Int.cast_ofNat_Int, Int.natCast_zero, true_and, and_true, Option.some.injEq, Value.int.injEq, f1, f2, f7, f63, f64]) (by simp only [↓yG, Nat.reduceEqDiff, ↓reduceIte, Int.natCast_add, Int.cast_ofNat_Int, Int.natCast_zero, true_and, and_true, Option.some.injEq, Value.int.injEq, f1, f2, f7, f63, f64]) (by simp only [↓yG, Nat.reduceEqDiff, ↓reduceIte, Int.natCast_add, Int.cast_ofNat_Int, Int.natCast_zero, true_and, and_true, Option.some.injEq, Value.int.injEq, f1, f2, f7, f63, f64]) (by simp only [↓yG, Nat.reduceEqDiff, ↓reduceIte, Int.natCast_add, Int.cast_ofNat_Int, Int.natCast_zero, true_and, and_true, Option.some.injEq, Value.int.injEq, f1, f2, f7, f63, f64]) (by simp only [↓yG, Nat.reduceEqDiff, ↓reduceIte, Int.natCast_add, Int.cast_ofNat_Int, Int.natCast_zero, true_and, and_true, Option.some.injEq, Value.int.injEq, f1, f2, f7, f63, f64])
    · have c3 : decide (0 < (j : Int)) = false := decide_eq_false (by omega)
      repeat' (first | refine zn ?_ | refine zK rfl ?_ | refine zP rfl ?_ | ((first | refine zm ?_ | skip); intro _; intros; simp (disch := first | exact zd | fail) only [↓yS, yT, gresults, gone, ↓reduceIte, Nat.reduceEqDiff, Nat.reduceAdd, Nat.reduceMul, reduceCtorEq, Int.reduceToNat, g3, f1, f2, f7, f63, f64, f65, f10, f11, f12, f13, f92, w6, slx.ia, hex1, s1, hne2, c2, c3]; first | (rename_i K k; (first | refine yC (k _ _ ?_) | refine zg (k _ ?_)); clear k K) | (rename_i A B C D a b c d; (first | refine zx (a ?_) | refine zy (b ?_) | refine zz (fun hc => c ?_) (fun hc => d ?_) | refine zv (b ?_) | refine zw (a ?_)) <;> clear a b c d A B C D <;> try simp only [yL] at hc)) | refine zA ?_ | refine zB ?_ | refine zF ?_)
      exact hfin (by simp only [↓yG, Nat.reduceEqDiff, ↓reduceIte, Int.natCast_add, Int.cast_ofNat_Int, Int.natCast_zero, true_and, and_true, Option.some.injEq, Value.int.injEq, f1, f2, f7, f63, f64]) (by simp only [↓yG, Nat.reduceEqDiff, ↓reduceIte, Int.natCast_add, Int.cast_ofNat_Int, Int.natCast_zero, true_and, and_true, Option.some.injEq, Value.int.injEq, f1, f2, f7, f63, f64]) (by simp only [↓yG, Nat.reduceEqDiff, ↓reduceIte, Int.natCast_add, Int.cast_ofNat_Int, Int.natCast_zero, true_and, and_true, Option.some.injEq, Value.int.injEq, f1, f2, f7, f63, f64]) (by simp only [↓yG, Nat.reduceEqDiff, ↓reduceIte, Int.natCast_add, Int.cast_ofNat_Int, Int.natCast_zero, true_and, and_true, Option.some.injEq, Value.int.injEq, f1, f2, f7, f63, f64]) (by simp only [↓yG, Nat.reduceEqDiff, ↓reduceIte, Int.natCast_add, Int.cast_ofNat_Int, Int.natCast_zero, true_and, and_true, Option.some.injEq, Value.int.injEq, f1, f2, f7, f63, f64]) (by simp only [↓yG, Nat.reduceEqDiff, ↓reduceIte, Int.natCast_add, Int.cast_ofNat_Int, Int.natCast_zero, true_and, and_true, Option.some.injEq, Value.int.injEq, f1, f2, f7, f63, f64])
  · obtain rfl : j = d'.E.length := by omega
    clear hJ
    repeat' (first | (exfalso; omega) | refine zn ?_ | refine zK rfl ?_ | refine zP rfl ?_ | ((first | refine zm ?_ | skip); intro _; intros; simp (disch := first | exact zd | fail) only [↓yS, yT, gresults, gone, ↓reduceIte, Nat.reduceEqDiff, Nat.reduceAdd, Nat.reduceMul, reduceCtorEq, Int.reduceToNat, g3, f1, f2, f7, f63, f64, f65, w2]; first | (rename_i K k; (first | refine yC (k _ _ ?_) | refine zg (k _ ?_)); clear k K) | (rename_i A B C D a b c d; (first | refine zx (a ?_) | refine zy (b ?_) | refine zz (fun hc => c ?_) (fun hc => d ?_) | refine zv (b ?_) | refine zw (a ?_)) <;> clear a b c d A B C D <;> try simp only [yL] at hc)) | refine zA ?_ | refine zB ?_ | refine zF ?_)
    refine Gw_s fun K' hK' => G1_callM (by simp only [gtarget, ↓GArg.ev, ↓evs, ↓Tr.get_set, Nat.reduceEqDiff, if_true, if_false, ↓reduceIte, Option.map_some, f1, f2, f7]; rfl) (one_of (ticks_ok ht _)) fun r10 H10 hq => hK' _ _ ?_
    obtain ⟨rfl, rfl⟩ := hq
    rw [updown]
    repeat' (first | refine zn ?_ | refine zK rfl ?_ | refine zP rfl ?_ | ((first | refine zm ?_ | skip); intro _; intros; simp (disch := first | exact zd | fail) only [↓yS, yT, gresults, gone, ↓reduceIte, Nat.reduceEqDiff, Nat.reduceAdd, Nat.reduceMul, reduceCtorEq, Int.reduceToNat, g3, f1, f2, f7, w2]; first | (rename_i K k; (first | refine yC (k _ _ ?_) | refine zg (k _ ?_)); clear k K) | (rename_i A B C D a b c d; (first | refine zx (a ?_) | refine zy (b ?_) | refine zz (fun hc => c ?_) (fun hc => d ?_) | refine zv (b ?_) | refine zw (a ?_)) <;> clear a b c d A B C D <;> try simp only [yL] at hc)) | refine zA ?_ | refine zB ?_ | refine zF ?_)
    refine Gw_s fun K' hK' => G1_callM (by simp only [gtarget, ↓GArg.ev, ↓evs, ↓Tr.get_set, Nat.reduceEqDiff, if_true, if_false, ↓reduceIte, Option.map_some, f1, f2, f7]; rfl) (one_of (ticks_ok hrt _)) fun r11 H11 hq => hK' _ _ ?_
    obtain ⟨rfl, rfl⟩ := hq
    rw [updown]
    repeat' (first | refine zn ?_ | refine zK rfl ?_ | refine zP rfl ?_ | ((first | refine zm ?_ | skip); intro _; intros; simp (disch := first | exact zd | fail) only [↓yS, yT, gresults, gone, ↓reduceIte, Nat.reduceEqDiff, Nat.reduceAdd, Nat.reduceMul, reduceCtorEq, Int.reduceToNat, g3, f1, f2, f7, w2]; first | (rename_i K k; (first | refine yC (k _ _ ?_) | refine zg (k _ ?_)); clear k K) | (rename_i A B C D a b c d; (first | refine zx (a ?_) | refine zy (b ?_) | refine zz (fun hc => c ?_) (fun hc => d ?_) | refine zv (b ?_) | refine zw (a ?_)) <;> clear a b c d A B C D <;> try simp only [yL] at hc)) | refine zA ?_ | refine zB ?_ | refine zF ?_)
    case refine_1 => exact hyes
    have q8x := r8 mj
    have w3 : Hj.rd H.len 3 = some (.bool d'.dr) := mine_rd mj0
    have hwx := hS46.trans hSj
    repeat' (first | refine zn ?_ | refine zK rfl ?_ | refine zP rfl ?_ | ((first | refine zm ?_ | skip); intro _; intros; simp (disch := first | exact zd | fail) only [↓yS, yT, gresults, gone, ↓reduceIte, Nat.reduceEqDiff, Nat.reduceAdd, Nat.reduceMul, reduceCtorEq, Int.reduceToNat, g3, f1, f2, f7, w2, w3, q8x]; first | (rename_i K k; (first | refine yC (k _ _ ?_) | refine zg (k _ ?_)); clear k K) | (rename_i A B C D a b c d; (first | refine zx (a ?_) | refine zy (b ?_) | refine zz (fun hc => c ?_) (fun hc => d ?_) | refine zv (b ?_) | refine zw (a ?_)) <;> clear a b c d A B C D <;> try simp only [yL] at hc)) | refine zA ?_ | refine zB ?_ | refine zF ?_)
    refine Gw_s fun K' hK' => G1_call (by simp only [gtarget, ↓GArg.ev, ↓evs, ↓Tr.get_set, Nat.reduceEqDiff, if_true, if_false, ↓reduceIte, Option.map_some, f1, f2, f7]; rfl) (retime_ok hwj (hx.later hw4 hwx) hsx hrt) fun r20 Hk hq => hK' _ _ ?_
    obtain ⟨hSjk, hq⟩ := hq
    have hwk := hSjk.wf
    have hlimk := hwk.1
    clear q8x w3 w2 w6 w60
    have mk := (hSjk.mine (mine_lt hwj mj)).trans mj
    have mk0 := (hSjk.mine (mine_lt hwj mj0)).trans mj0
    rcases hq with ⟨z, sz, D2, L2, rfl, hok2, htk2, hdr2, hto2, hz, hD2, hT2⟩ | ⟨sz, n2, rfl, hn2⟩
    case inr =>
      repeat' (first | refine zn ?_ | refine zK rfl ?_ | refine zP rfl ?_ | ((first | refine zm ?_ | skip); intro _; intros; simp (disch := first | exact zd | fail) only [↓yS, yT, gresults, gone, ↓reduceIte, Nat.reduceEqDiff, Nat.reduceAdd, Nat.reduceMul, reduceCtorEq, Int.reduceToNat, g3, f1, f2, f7, hz8, gsz]; first | (rename_i K k; (first | refine yC (k _ _ ?_) | refine zg (k _ ?_)); clear k K) | (rename_i A B C D a b c d; (first | refine zx (a ?_) | refine zy (b ?_) | refine zz (fun hc => c ?_) (fun hc => d ?_) | refine zv (b ?_) | refine zw (a ?_)) <;> clear a b c d A B C D <;> try simp only [yL] at hc)) | refine zA ?_ | refine zB ?_ | refine zF ?_)
      all_goals first | exact hyes | (exfalso; omega)
    have z1 := hz.rg.flat
    have z2 := hz.ev.rd.flat
    have z3 := hz.cm.flat
    have gs6 : gsetn z8 0 8 (dcV z) = some (dcC z) := gsetn_all rfl rfl (by simp [flatV_int, flatV_str, flatV_bool, z1, z2, z3])
    obtain ⟨Hm, hHm⟩ : ∃ Hm, Hm = (Hk.add (some (.cells z8 0 true))).put Hk.len (.cells (dcC z) 0 true) := ⟨_, rfl⟩
    have hSkm : Same Hk Hm := hHm ▸ (Same.refl hwk).new _ _
    have mm : Hm.mine Hk.len = some (dcC z, 0) := by
      rw [hHm, mine_put_same]
      exact (mine_obj (mine_add_eq rfl hlimk)).1
    have hwm := hSkm.wf
    have mm0 := (hSkm.mine (mine_lt hwk mk0)).trans mk0
    have w6 : Hm.rd Hk.len 6 = some z.ev := mine_rd mm
    have hzl : z.E.length = d'.E.length := by rw [hT2.len]; exact hto.len
    have slz : IsSl z.ev d'.E.length := by have := hz.ev.rd.rd.isSl; rwa [hzl] at this
    have hxrt : x.rt = to := hto.rt
    have hback : ∀ j, j < d'.E.length → z.E[j]!.i = d'.E[j]!.i ∧ z.E[j]!.o = d'.E[j]!.o := fun j hj => by
      obtain ⟨a1, _⟩ := hT.new j hj
      obtain ⟨a2, _⟩ := hT2.new j (by rw [hto.len]; exact hj)
      have sp2 := a2.sp
      rw [hxrt] at sp2
      exact a1.sp.back sp2 (by rename_i hc; first | exact hc | omega)
    repeat' (first | refine zn ?_ | refine zK rfl ?_ | refine zP rfl ?_ | ((first | refine zm ?_ | skip); intro _; intros; simp (disch := first | exact zd | fail) only [↓yS, yT, gresults, gone, ↓reduceIte, Nat.reduceEqDiff, Nat.reduceAdd, Nat.reduceMul, reduceCtorEq, Int.reduceToNat, g3, f1, f2, f7, hz8, gs6, hHm.symm, w6, slz.len, hne2]; first | (rename_i K k; (first | refine yC (k _ _ ?_) | refine zg (k _ ?_)); clear k K) | (rename_i A B C D a b c d; (first | refine zx (a ?_) | refine zy (b ?_) | refine zz (fun hc => c ?_) (fun hc => d ?_) | refine zv (b ?_) | refine zw (a ?_)) <;> clear a b c d A B C D <;> try simp only [yL] at hc)) | refine zA ?_ | refine zB ?_ | refine zF ?_)
    have hS0m := (hS6.trans hSj).trans (hSjk.trans hSkm)
    have hz' : EvR Hm z.ev z.E := hz.ev.later hwk hSkm
    have hm6 := mine_lt hwm mm
    have hm60 := mine_lt hwm mm0
    clear hD hT hto hT2 hto2 hSj hSjk hSkm hHm w6 gs6 mk mk0 hS45 hS46 hx f63 f64 f65 mj mj0 m6 m60
    generalize Hk.len = kz at *
    refine GW_loop (fun k fr Hn => ∃ j : Nat, k = d'.E.length - j ∧ j ≤ d'.E.length ∧ fr.get 2 = some (.pointer (some ⟨H.len, 0, none⟩)) ∧ fr.get 16 = some (.pointer (some ⟨kz, 0, none⟩)) ∧ fr.get 167 = some (z.ev) ∧ fr.get 168 = some (.int .i64 d'.E.length) ∧ fr.get 169 = some (.int .i64 j) ∧ Same Hm Hn) ?_ d'.E.length ?_
    rotate_left
    · refine ⟨0, by omega, by omega, ?_⟩
      simp only [↓yG, Nat.reduceEqDiff, ↓reduceIte, Int.natCast_add, Int.cast_ofNat_Int, Int.natCast_zero, true_and, and_true, Option.some.injEq, Value.int.injEq, f1, f2, f7]
      exact Same.refl hwm
    rintro k fu Hn ⟨j, rfl, hj, f2, f16, f167, f168, f169, hSn⟩ J hJ
    have hwn := hSn.wf
    have hlimn := hwn.1
    have mn := (hSn.mine hm6).trans mm
    have mn0 := (hSn.mine hm60).trans mm0
    by_cases hj1 : j < d'.E.length
    · obtain ⟨b1, b2⟩ := hback j hj1
      have hzr := (hz'.later hwm hSn).rowN (k := j) (by omega)
      have hfz : flatV z.E[j]!.v = true := (hz'.at_ (k := j) (by omega)).rd.flat
      have gse := gsetn_ev (cs := [.int .i64 0, .int .i64 0, .int .i64 0, .string ⟨#[]⟩, .int .u8 0, .string ⟨#[]⟩, .slice none 0 0]) (e := z.E[j]!) rfl hfz
      have hdr : ∀ {K : GHeap}, Same Hm K → K.rdn (blk d'.ev) (ofs d'.ev + j * 7 + 1) 2 = some (s2 d'.E[j]!.i d'.E[j]!.o) := fun h => by
        have hr := (hd'.ev.later hw (hS0m.trans h)).rd.rd
        have := hr.rdn (by decide) (c := j * 7 + 1) (m := 2) (by decide) (by have := rows_len evC_len d'.E; omega)
        rw [ev_part hj1] at this
        exact this
      obtain ⟨Hp, hHp⟩ : ∃ Hp, Hp = (Hn.add (some (.cells [.int .i64 0, .int .i64 0, .int .i64 0, .string ⟨#[]⟩, .int .u8 0, .string ⟨#[]⟩, .slice none 0 0] 0 true))).put Hn.len (.cells (evC z.E[j]!) 0 true) := ⟨_, rfl⟩
      have hSp : Same Hn Hp := hHp ▸ (Same.refl hwn).new _ _
      have hSnp := hSn.trans hSp
      have v1 : Hp.rdn Hn.len 1 2 = some (s2 z.E[j]!.i z.E[j]!.o) := by
        rw [hHp]
        simp only [GHeap.rdn, cs_put_same, Option.bind_some]
        rfl
      have v2 := hdr hSnp
      have w60 : Hp.rd H.len 6 = some d'.ev := mine_rd ((hSp.mine (mine_lt hwn mn0)).trans mn0)
      rw [b1, b2] at v1
      have hne3 : decide (¬ (d'.E[j]!.i = d'.E[j]!.i ∧ d'.E[j]!.o = d'.E[j]!.o)) = false := by simp
      clear b1 b2 hdr hback hokx hok hok2
      generalize d'.E[j]!.i = ei at *
      generalize d'.E[j]!.o = eo at *
      repeat' (first | (exfalso; omega) | refine zn ?_ | refine zK rfl ?_ | refine zP rfl ?_ | ((first | refine zm ?_ | skip); intro _; intros; simp (disch := first | exact zd | fail) only [↓yS, yT, gresults, gone, ↓reduceIte, Nat.reduceEqDiff, Nat.reduceAdd, Nat.reduceMul, reduceCtorEq, Int.reduceToNat, g3, f2, f16, f167, f168, f169, slz.ia, hzr, gse, hHp.symm, v1, w60, sld.ia, v2, gb_neS2, hne3]; first | (rename_i K k; (first | refine yC (k _ _ ?_) | refine zg (k _ ?_)); clear k K) | (rename_i A B C D a b c d; (first | refine zx (a ?_) | refine zy (b ?_) | refine zz (fun hc => c ?_) (fun hc => d ?_) | refine zv (b ?_) | refine zw (a ?_)) <;> clear a b c d A B C D <;> try simp only [yL] at hc)) | refine zA ?_ | refine zB ?_ | refine zF ?_)
      refine hJ _ _ ⟨d'.E.length - (j + 1), by omega, j + 1, rfl, by omega, ?_⟩
      simp only [↓yG, Nat.reduceEqDiff, ↓reduceIte, Int.natCast_add, Int.cast_ofNat_Int, Int.natCast_zero, true_and, and_true, Option.some.injEq, Value.int.injEq, f2, f16, f167, f168]
      exact hSnp
    · obtain rfl : j = d'.E.length := by omega
      have w6 : Hn.rd kz 6 = some z.ev := mine_rd mn
      have w60 : Hn.rd H.len 6 = some d'.ev := mine_rd mn0
      repeat' (first | (exfalso; omega) | refine zn ?_ | refine zK rfl ?_ | refine zP rfl ?_ | ((first | refine zm ?_ | skip); intro _; intros; simp (disch := first | exact zd | fail) only [↓yS, yT, gresults, gone, ↓reduceIte, Nat.reduceEqDiff, Nat.reduceAdd, Nat.reduceMul, reduceCtorEq, Int.reduceToNat, g3, f2, f16, f167, f168, f169, w6, w60, slz.len, sld.len]; first | (rename_i K k; (first | refine yC (k _ _ ?_) | refine zg (k _ ?_)); clear k K) | (rename_i A B C D a b c d; (first | refine zx (a ?_) | refine zy (b ?_) | refine zz (fun hc => c ?_) (fun hc => d ?_) | refine zv (b ?_) | refine zw (a ?_)) <;> clear a b c d A B C D <;> try simp only [yL] at hc)) | refine zA ?_ | refine zB ?_ | refine zF ?_)
      exact hyes
/-- the law -/
theorem retimed_law {H : GHeap} (hw : H.wf) {gvs : List Value} (h : RdAsQ (fun m => m ≤ 1048576) H [.st [.str, .str, .int .u8, .bool, .int .i64, .sl (.st [.str, .int .i64, .int .i64, .int .i64, .int .i64, .int .u8, .bool]), .sl (.st [.int .i64, .st [.int .i64, .int .i64], .str, .int .u8, .str, .sl (.st [.sl (.st [.str, .st [.int .u8, .bool, .bool], .str])])]), .sl (.st [.int .i64, .int .i64, .int .i64, .int .i64, .str, .str, .bool, .bool])], .int .u8] gvs) : ∃ v H2, gev G 3 gvs H = some (v, H2) ∧ v = .bool true := by
  obtain ⟨_, _, rfl, h1, _, _, rfl, h2, rfl⟩ := h
  obtain ⟨d, rfl, hd, hs⟩ := dc_of h1
  obtain ⟨n, rfl, hn⟩ := h2.int_
  have := wf_u8 hn
  exact retimed_ok hw hd hs this
end Go.Gh
