/-
  retime, walked: Retime.
-/
import Derived.Test.YtjjcgaompnjbdaaDoorTrWE
namespace Go.Gh
set_option linter.unusedSimpArgs false
set_option linter.unusedVariables false
set_option maxHeartbeats 4000000
open Go.RowKit
set_option maxRecDepth 4000

/-- what Retime returns -/
def RetOut (H0 H : GHeap) (d : Dc) (to : Int) (drop : Bool) (r : Value) : Prop :=
  Same H0 H ∧ ((∃ (x : Dc) (s : Value) (D : List (Int × Int × Int)) (L : List (Int × Int)), r = .tuple #[dcV x, s, .int .i64 0] ∧ dcOk d ∧ 0 < tk to ∧ (drop = true → cdr to = true) ∧ DcTo d to drop x ∧ DcR H x ∧ GRd H 3 s d.E.length (D.flatMap drC) ∧ Turned d to x.E D L d.E.length) ∨
    ∃ s n, r = .tuple #[.agg z8.toArray, s, .int .i64 n] ∧ n ≠ 0)
theorem retime_ok {H : GHeap} (hw : H.wf) {d : Dc} (hd : DcR H d) (hs : SmD d) {to : Int} (ht : 0 ≤ to ∧ to ≤ 255) {drop : Bool} :
    ∃ r H', gev G 6 [dcV d, .int .u8 to, .bool drop, .int .u8 1] H = some (r, H') ∧ RetOut H H' d to drop r := by
  refine gev_GW (f := 6) rfl fun Post hPost => ?_
  have hlim := hw.1
  have fd := dc_cflat hd
  have hEn := hs.E.1
  have hCn := hs.C.1
  have hrt := hs.rt
  simp only [frameOf, Nat.reduceAdd]
  have hbd : ∀ {s : Value} {n : Int} {H'}, n ≠ 0 → Same H H' → Post (.tuple #[.agg z8.toArray, s, .int .i64 n]) H' := fun hn hS => hPost _ _ ⟨hS, .inr ⟨_, _, rfl, hn⟩⟩
  obtain ⟨H1, hH1⟩ : ∃ H1, H1 = (H.add (some (.cells (dcC d) 0 true))).add (some (.cells z8 0 true)) := ⟨_, rfl⟩
  have hz8 : [Value.string ⟨#[]⟩, .string ⟨#[]⟩, .int .u8 0, .bool false, .int .i64 0, .slice none 0 0, .slice none 0 0, .slice none 0 0] = z8 := rfl
  have hS1 : Same H H1 := hH1 ▸ ((Same.refl hw).add _).add _
  have hl1 : H1.len = H.len + 2 := by rw [hH1]; simp only [len_add]
  have hw1 := hS1.wf
  have m0 : H1.mine H.len = some (dcC d, 0) := by rw [hH1, mine_add_ne (by rw [len_add]; omega), mine_add_eq rfl hw.1]
  have m1 : H1.mine (H.len + 1) = some (z8, 0) := by rw [hH1, mine_add_eq (by rw [len_add]) (by rw [lim_add]; omega)]
  have r8 : ∀ {K : GHeap}, K.mine H.len = some (dcC d, 0) → K.rdn H.len 0 8 = some (dcV d) := fun h => by
    simp only [GHeap.rdn, GHeap.cs, (mine_obj h).2, Option.bind_some]
    rfl
  have hz : ∀ {K : GHeap}, Same H1 K → Same H (K.put (H.len + 1) (.cells z8 0 true)) := fun h => (hS1.trans h).put (by omega) (by have := h.len; omega) _
  have gsz : gsetn z8 0 8 (.agg z8.toArray) = some z8 := gsetn_all rfl rfl (by simp [flatV, z8])
  have rz8 : ∀ {K : GHeap} {j : Nat} {u : Nat} {b : Bool}, (K.put j (.cells z8 u b)).rdn j 0 8 = some (.agg z8.toArray) := rdn_put_all rfl
  have q8 := r8 m0
  repeat' (first | refine zn ?_ | refine zK rfl ?_ | refine zP rfl ?_ | ((first | refine zm ?_ | skip); intro _; intros; simp (disch := first | exact zd | fail) only [↓yS, yT, gresults, gone, ↓reduceIte, Nat.reduceEqDiff, Nat.reduceAdd, Nat.reduceMul, reduceCtorEq, Int.reduceToNat, g6, RDc, fd, hz8, hH1.symm, q8]; first | (rename_i K k; (first | refine yC (k _ _ ?_) | refine zg (k _ ?_)); clear k K) | (rename_i A B C D a b c d; (first | refine zx (a ?_) | refine zy (b ?_) | refine zz (fun hc => c ?_) (fun hc => d ?_) | refine zv (b ?_) | refine zw (a ?_)) <;> clear a b c d A B C D <;> try simp only [yL] at hc)) | refine zA ?_ | refine zB ?_ | refine zF ?_)
  clear hH1
  refine Gw_s fun K' hK' => G1_call (by simp only [gtarget, ↓GArg.ev, ↓evs, ↓Tr.get_set, Nat.reduceEqDiff, if_true, if_false, ↓reduceIte, Option.map_some]; rfl) (dcheck_ok hw1 (hd.later hw hS1) hs) fun r2 H2 hq => hK' _ _ ?_
  obtain ⟨⟨n, rfl, hn⟩, hS12⟩ := hq
  have m02 := (hS12.mine (show H.len < H1.len by omega)).trans m0
  have m12 := (hS12.mine (show H.len + 1 < H1.len by omega)).trans m1
  by_cases hn0 : n = 0
  case neg =>
    repeat' (first | refine zn ?_ | refine zK rfl ?_ | refine zP rfl ?_ | ((first | refine zm ?_ | skip); intro _; intros; simp (disch := first | exact zd | fail) only [↓yS, yT, gresults, gone, ↓reduceIte, Nat.reduceEqDiff, Nat.reduceAdd, Nat.reduceMul, reduceCtorEq, Int.reduceToNat, g6, m12, gsz, hz8, rz8]; first | (rename_i K k; (first | refine yC (k _ _ ?_) | refine zg (k _ ?_)); clear k K) | (rename_i A B C D a b c d; (first | refine zx (a ?_) | refine zy (b ?_) | refine zz (fun hc => c ?_) (fun hc => d ?_) | refine zv (b ?_) | refine zw (a ?_)) <;> clear a b c d A B C D <;> try simp only [yL] at hc)) | refine zA ?_ | refine zB ?_ | refine zF ?_)
    all_goals first | exact hbd hn0 (hz hS12) | (exfalso; omega)
  have hok := hn.1 hn0
  subst hn0
  have hS2 := hS1.trans hS12
  have d0 : decide (¬ (0 : Int) = 0) = false := rfl
  repeat' (first | refine zn ?_ | refine zK rfl ?_ | refine zP rfl ?_ | ((first | refine zm ?_ | skip); intro _; intros; simp (disch := first | exact zd | fail) only [↓yS, yT, gresults, gone, ↓reduceIte, Nat.reduceEqDiff, Nat.reduceAdd, Nat.reduceMul, reduceCtorEq, Int.reduceToNat, g6]; first | (rename_i K k; (first | refine yC (k _ _ ?_) | refine zg (k _ ?_)); clear k K) | (rename_i A B C D a b c d; (first | refine zx (a ?_) | refine zy (b ?_) | refine zz (fun hc => c ?_) (fun hc => d ?_) | refine zv (b ?_) | refine zw (a ?_)) <;> clear a b c d A B C D <;> try simp only [yL] at hc)) | refine zA ?_ | refine zB ?_ | refine zF ?_)
  refine Gw_s fun K' hK' => G1_call (by simp only [gtarget, ↓GArg.ev, ↓evs, ↓Tr.get_set, Nat.reduceEqDiff, if_true, if_false, ↓reduceIte, Option.map_some]; rfl) (one_of (tvalid_ok ht _)) fun r3 H3 hq => hK' _ _ ?_
  obtain ⟨rfl, rfl⟩ := hq
  by_cases htk : 0 < tk to
  case neg =>
    have d1 : decide (0 < tk to) = false := decide_eq_false htk
    repeat' (first | refine zn ?_ | refine zK rfl ?_ | refine zP rfl ?_ | ((first | refine zm ?_ | skip); intro _; intros; simp (disch := first | exact zd | fail) only [↓yS, yT, gresults, gone, ↓reduceIte, Nat.reduceEqDiff, Nat.reduceAdd, Nat.reduceMul, reduceCtorEq, Int.reduceToNat, g6, d1, Bool.not_false, m12, gsz, hz8, rz8]; first | (rename_i K k; (first | refine yC (k _ _ ?_) | refine zg (k _ ?_)); clear k K) | (rename_i A B C D a b c d; (first | refine zx (a ?_) | refine zy (b ?_) | refine zz (fun hc => c ?_) (fun hc => d ?_) | refine zv (b ?_) | refine zw (a ?_)) <;> clear a b c d A B C D <;> try simp only [yL] at hc)) | refine zA ?_ | refine zB ?_ | refine zF ?_)
    exact hbd (by decide) (hz hS12)
  have d1 : decide (0 < tk to) = true := decide_eq_true htk
  by_cases hdr : drop = true → cdr to = true
  case neg =>
    have hd1 : drop = true := Classical.byContradiction fun h => hdr fun h' => absurd h' h
    subst hd1
    have hc0 : cdr to = false := Bool.eq_false_iff.2 fun h => hdr fun _ => h
    repeat' (first | refine zn ?_ | refine zK rfl ?_ | refine zP rfl ?_ | ((first | refine zm ?_ | skip); intro _; intros; simp (disch := first | exact zd | fail) only [↓yS, yT, gresults, gone, ↓reduceIte, Nat.reduceEqDiff, Nat.reduceAdd, Nat.reduceMul, reduceCtorEq, Int.reduceToNat, g6, d1, Bool.not_true]; first | (rename_i K k; (first | refine yC (k _ _ ?_) | refine zg (k _ ?_)); clear k K) | (rename_i A B C D a b c d; (first | refine zx (a ?_) | refine zy (b ?_) | refine zz (fun hc => c ?_) (fun hc => d ?_) | refine zv (b ?_) | refine zw (a ?_)) <;> clear a b c d A B C D <;> try simp only [yL] at hc)) | refine zA ?_ | refine zB ?_ | refine zF ?_)
    intro K' hK'; refine G1_call (by simp only [gtarget, ↓GArg.ev, ↓evs, ↓Tr.get_set, Nat.reduceEqDiff, if_true, if_false, ↓reduceIte, Option.map_some]; rfl) (one_of (canDrop_ok ht _)) fun r3 H3 hq => hK' _ _ ?_
    obtain ⟨rfl, rfl⟩ := hq
    repeat' (first | refine zn ?_ | refine zK rfl ?_ | refine zP rfl ?_ | ((first | refine zm ?_ | skip); intro _; intros; simp (disch := first | exact zd | fail) only [↓yS, yT, gresults, gone, ↓reduceIte, Nat.reduceEqDiff, Nat.reduceAdd, Nat.reduceMul, reduceCtorEq, Int.reduceToNat, g6, hc0, Bool.not_false, m12, gsz, hz8, rz8]; first | (rename_i K k; (first | refine yC (k _ _ ?_) | refine zg (k _ ?_)); clear k K) | (rename_i A B C D a b c d; (first | refine zx (a ?_) | refine zy (b ?_) | refine zz (fun hc => c ?_) (fun hc => d ?_) | refine zv (b ?_) | refine zw (a ?_)) <;> clear a b c d A B C D <;> try simp only [yL] at hc)) | refine zA ?_ | refine zB ?_ | refine zF ?_)
    exact hbd (by decide) (hz hS12)
  repeat' (first | refine zn ?_ | refine zK rfl ?_ | refine zP rfl ?_ | ((first | refine zm ?_ | skip); intro _; intros; simp (disch := first | exact zd | fail) only [↓yS, yT, gresults, gone, ↓reduceIte, Nat.reduceEqDiff, Nat.reduceAdd, Nat.reduceMul, reduceCtorEq, Int.reduceToNat, g6, d1, Bool.not_true]; first | (rename_i K k; (first | refine yC (k _ _ ?_) | refine zg (k _ ?_)); clear k K) | (rename_i A B C D a b c d; (first | refine zx (a ?_) | refine zy (b ?_) | refine zz (fun hc => c ?_) (fun hc => d ?_) | refine zv (b ?_) | refine zw (a ?_)) <;> clear a b c d A B C D <;> try simp only [yL] at hc)) | refine zA ?_ | refine zB ?_ | refine zF ?_)
  case' refine_1 =>
    intro K' hK'; refine G1_call (by simp only [gtarget, ↓GArg.ev, ↓evs, ↓Tr.get_set, Nat.reduceEqDiff, if_true, if_false, ↓reduceIte, Option.map_some]; rfl) (one_of (canDrop_ok ht _)) fun r3 H3 hq => hK' _ _ ?_
    obtain ⟨rfl, rfl⟩ := hq
    have hc1 := hdr hc
    repeat' (first | refine zn ?_ | refine zK rfl ?_ | refine zP rfl ?_ | ((first | refine zm ?_ | skip); intro _; intros; simp (disch := first | exact zd | fail) only [↓yS, yT, gresults, gone, ↓reduceIte, Nat.reduceEqDiff, Nat.reduceAdd, Nat.reduceMul, reduceCtorEq, Int.reduceToNat, g6, hc1, Bool.not_true]; first | (rename_i K k; (first | refine yC (k _ _ ?_) | refine zg (k _ ?_)); clear k K) | (rename_i A B C D a b c d; (first | refine zx (a ?_) | refine zy (b ?_) | refine zz (fun hc => c ?_) (fun hc => d ?_) | refine zv (b ?_) | refine zw (a ?_)) <;> clear a b c d A B C D <;> try simp only [yL] at hc)) | refine zA ?_ | refine zB ?_ | refine zF ?_)
  all_goals
    refine Gw_s fun K' hK' => G1_call (by simp only [gtarget, ↓GArg.ev, ↓evs, ↓Tr.get_set, Nat.reduceEqDiff, if_true, if_false, ↓reduceIte, Option.map_some]; rfl) (one_of (mode_ok _)) fun r4 H4 hq => hK' _ _ ?_
    obtain ⟨rfl, rfl⟩ := hq
    have q82 := r8 m02
    repeat' (first | refine zn ?_ | refine zK rfl ?_ | refine zP rfl ?_ | ((first | refine zm ?_ | skip); intro _; intros; simp (disch := first | exact zd | fail) only [↓yS, yT, gresults, gone, ↓reduceIte, Nat.reduceEqDiff, Nat.reduceAdd, Nat.reduceMul, reduceCtorEq, Int.reduceToNat, g6, Bool.not_true, q82]; first | (rename_i K k; (first | refine yC (k _ _ ?_) | refine zg (k _ ?_)); clear k K) | (rename_i A B C D a b c d; (first | refine zx (a ?_) | refine zy (b ?_) | refine zz (fun hc => c ?_) (fun hc => d ?_) | refine zv (b ?_) | refine zw (a ?_)) <;> clear a b c d A B C D <;> try simp only [yL] at hc)) | refine zA ?_ | refine zB ?_ | refine zF ?_)
    refine Gw_s fun K' hK' => G1_call (by simp only [gtarget, ↓GArg.ev, ↓evs, ↓Tr.get_set, Nat.reduceEqDiff, if_true, if_false, ↓reduceIte, Option.map_some]; rfl) (dclone_ok hS2.wf (hd.later hw hS2) hs) fun r5 H5 hq => hK' _ _ ?_
    obtain ⟨x0, rfl, hO⟩ := hq
    have hS45 := hO.rg.same
    have hS5 := hS2.trans hS45
    have hw5 := hS5.wf
    have hlim5 := hw5.1
    have h2l : H1.len ≤ H4.len := hS12.len
    have m05 := (hS45.mine (show H.len < H4.len by omega)).trans m02
    have m15 := (hS45.mine (show H.len + 1 < H4.len by omega)).trans m12
    have f1 := hO.rg.flat
    have f2 := hO.cm.flat
    have f3 := hO.ev.own.flat
    have hl5 := hO.rg.same.len
    have gs0 : gsetn z8 0 8 (dcV x0) = some (dcC x0) := gsetn_all rfl rfl (by simp [flatV_int, flatV_str, flatV_bool, f1, f2, f3])
    obtain ⟨xa, hxa⟩ : ∃ xa : Dc, xa = { x0 with rt := to } := ⟨_, rfl⟩
    obtain ⟨xb, hxb⟩ : ∃ xb : Dc, xb = { xa with dr := drop } := ⟨_, rfl⟩
    obtain ⟨x1, hx1⟩ : ∃ x1 : Dc, x1 = { xb with cv := .slice none 0 0, C := [] } := ⟨_, rfl⟩
    have gsA : gset (dcC x0) 2 (.int .u8 to) = some (dcC xa) := by rw [gset_ok (by simp [dcC]) rfl, hxa]; rfl
    have gsB : gset (dcC xa) 3 (.bool drop) = some (dcC xb) := by rw [gset_ok (by simp [dcC]) rfl, hxb]; rfl
    have gsC : gset (dcC xb) 7 (.slice none 0 0) = some (dcC x1) := by rw [gset_ok (by simp [dcC]) rfl, hx1]; rfl
    have e1rv : x1.rv = x0.rv := by rw [hx1, hxb, hxa]
    have e1ev : x1.ev = x0.ev := by rw [hx1, hxb, hxa]
    have e1R : x1.R = d.R := by rw [hx1, hxb, hxa]; exact hO.R
    have e1E : x1.E = x0.E := by rw [hx1, hxb, hxa]
    obtain ⟨H7, hH7⟩ : ∃ H7, H7 = ((H5.add (some (.cells z8 0 true))).put H5.len (.cells (dcC x1) 0 true)).add (some (.dict [])) := ⟨_, rfl⟩
    have hSa : Same H5 (H5.add (some (.cells z8 0 true))) := (Same.refl hw5).add _
    have mc : (H5.add (some (.cells z8 0 true))).mine H5.len = some (z8, 0) := mine_add_eq rfl hlim5
    have hRt : RtS H H7 H5.len (H5.len + 1) d x1 [] := by
      have hSb : Same H ((H5.add (some (.cells z8 0 true))).put H5.len (.cells (dcC x1) 0 true)) := hS5.new _ _
      have hSd : Same ((H5.add (some (.cells z8 0 true))).put H5.len (.cells (dcC x1) 0 true)) H7 := hH7 ▸ (Same.refl hSb.wf).add _
      have hlb : ((H5.add (some (.cells z8 0 true))).put H5.len (.cells (dcC x1) 0 true)).len = H5.len + 1 := by simp only [len_put, len_add]
      have mi : ∀ {k : Nat} {v : List Value × Nat}, k < H5.len → H5.mine k = some v → H7.mine k = some v := fun hk h => by
        rw [hSd.mine (by omega), mine_put_ne (by omega), mine_add_ne (by omega)]; exact h
      have ou : ∀ {s n : Nat} {v : Value} {xs : List Value}, s ≠ 0 → OS s s H4 H5 v n xs → OS s s H H7 v n xs := fun hs h => (((h.weaken hS2).later hSa).putU mc (by omega) hs).later hSd
      refine ⟨hSb.trans hSd, mi (by omega) m05, mi (by omega) m15, ?_, by omega, ?_, by omega, ?_, ?_, ⟨?_, fun y hy => ?_⟩, ?_⟩
      · rw [hSd.mine (by omega)]; exact mine_put_same (mine_obj mc).1
      · rw [hH7]; exact dct_add_eq hlb
      · rw [hH7, len_add]; omega
      · rw [e1rv, e1R]; exact ou (by decide) hO.rg
      · rw [e1ev, e1E]; exact ou (by decide) hO.ev.own
      · rw [e1E] at hy
        have hT := hO.ev.rows y hy
        exact ⟨ou (by decide) hT.own, fun z hz => ou (by decide) (hT.rows z hz)⟩
      · rw [e1rv, e1ev]; exact hO.dis
    have q2 : H7.rd H.len 2 = some (.int .u8 d.rt) := mine_rd hRt.a0
    have q6 : H7.rd H5.len 6 = some x1.ev := mine_rd hRt.ac
    repeat' (first | refine zn ?_ | refine zK rfl ?_ | refine zP rfl ?_ | ((first | refine zm ?_ | skip); intro _; intros; simp (disch := first | exact zd | fail) only [↓yS, yT, gresults, gone, ↓reduceIte, Nat.reduceEqDiff, Nat.reduceAdd, Nat.reduceMul, reduceCtorEq, Int.reduceToNat, g6, hz8, gs0, gsA, gsB, gsC, hH7.symm, q2]; first | (rename_i K k; (first | refine yC (k _ _ ?_) | refine zg (k _ ?_)); clear k K) | (rename_i A B C D a b c d; (first | refine zx (a ?_) | refine zy (b ?_) | refine zz (fun hc => c ?_) (fun hc => d ?_) | refine zv (b ?_) | refine zw (a ?_)) <;> clear a b c d A B C D <;> try simp only [yL] at hc)) | refine zA ?_ | refine zB ?_ | refine zF ?_)
    refine Gw_s fun K' hK' => G1_call (by simp only [gtarget, ↓GArg.ev, ↓evs, ↓Tr.get_set, Nat.reduceEqDiff, if_true, if_false, ↓reduceIte, Option.map_some]; rfl) (one_of (ticks_ok hrt _)) fun r8 H8 hq => hK' _ _ ?_
    obtain ⟨rfl, rfl⟩ := hq
    repeat' (first | refine zn ?_ | refine zK rfl ?_ | refine zP rfl ?_ | ((first | refine zm ?_ | skip); intro _; intros; simp (disch := first | exact zd | fail) only [↓yS, yT, gresults, gone, ↓reduceIte, Nat.reduceEqDiff, Nat.reduceAdd, Nat.reduceMul, reduceCtorEq, Int.reduceToNat, g6]; first | (rename_i K k; (first | refine yC (k _ _ ?_) | refine zg (k _ ?_)); clear k K) | (rename_i A B C D a b c d; (first | refine zx (a ?_) | refine zy (b ?_) | refine zz (fun hc => c ?_) (fun hc => d ?_) | refine zv (b ?_) | refine zw (a ?_)) <;> clear a b c d A B C D <;> try simp only [yL] at hc)) | refine zA ?_ | refine zB ?_ | refine zF ?_)
    refine Gw_s fun K' hK' => G1_call (by simp only [gtarget, ↓GArg.ev, ↓evs, ↓Tr.get_set, Nat.reduceEqDiff, if_true, if_false, ↓reduceIte, Option.map_some]; rfl) (one_of (ticks_ok ht _)) fun r8 H8 hq => hK' _ _ ?_
    obtain ⟨rfl, rfl⟩ := hq
    have hx1l : x0.E.length = d.E.length := hO.len
    have hsl1 : IsSl x1.ev d.E.length := by
      have := hRt.ev.own.rd.isSl
      rwa [e1E, hx1l] at this
    have hT0 : Turned d to x1.E [] [] 0 := ⟨by rw [e1E]; exact hx1l, rfl, fun i hi => absurd hi (by omega), fun i _ hi => by rw [e1E]; exact hO.eq i hi⟩
    have hxrt : x1.rt = to := by rw [hx1, hxb, hxa]
    have hxdr : x1.dr = drop := by rw [hx1, hxb]
    have hxti : x1.ti = d.ti := by rw [hx1, hxb, hxa]; exact hO.ti
    have hxla : x1.la = d.la := by rw [hx1, hxb, hxa]; exact hO.la
    have hxcv : x1.cv = .slice none 0 0 := by rw [hx1]
    have hxC : x1.C = [] := by rw [hx1]
    repeat' (first | refine zn ?_ | refine zK rfl ?_ | refine zP rfl ?_ | ((first | refine zm ?_ | skip); intro _; intros; simp (disch := first | exact zd | fail) only [↓yS, yT, gresults, gone, ↓reduceIte, Nat.reduceEqDiff, Nat.reduceAdd, Nat.reduceMul, reduceCtorEq, Int.reduceToNat, g6, q6, hsl1.len]; first | (rename_i K k; (first | refine yC (k _ _ ?_) | refine zg (k _ ?_)); clear k K) | (rename_i A B C D a b c d; (first | refine zx (a ?_) | refine zy (b ?_) | refine zz (fun hc => c ?_) (fun hc => d ?_) | refine zv (b ?_) | refine zw (a ?_)) <;> clear a b c d A B C D <;> try simp only [yL] at hc)) | refine zA ?_ | refine zB ?_ | refine zF ?_)
    clear gs0 gsA gsB gsC hH7 q2 q6 hxa hxb hx1 e1E hO hSa mc m05 m15 f1 f2 f3
    generalize H5.len + 1 = m at *
    generalize H5.len = c at *
    refine GW_loop (fun k fr H9 => ∃ (j : Nat) (E : List Ev) (D : List (Int × Int × Int)) (s : Value) (L : List (Int × Int)), k = d.E.length - j ∧ j ≤ d.E.length ∧ fr.get 1 = some (.int .u8 to) ∧ fr.get 3 = some (.int .u8 1) ∧ fr.get 4 = some (.pointer (some ⟨H.len, 0, none⟩)) ∧ fr.get 8 = some (.pointer (some ⟨H.len + 1, 0, none⟩)) ∧ fr.get 12 = some (.pointer (some ⟨c, 0, none⟩)) ∧ fr.get 13 = some (s) ∧ fr.get 14 = some (.map (some m)) ∧ fr.get 15 = some (.int .i64 (tk d.rt)) ∧ fr.get 16 = some (.int .i64 (tk to)) ∧ fr.get 63 = some (.int .i64 d.E.length) ∧ fr.get 64 = some (.int .i64 j) ∧
      RtS H H9 c m d { x1 with E := E } L ∧ OS 3 3 H H9 s j (D.flatMap drC) ∧ Turned d to E D L j) ?_ d.E.length ?_
    rotate_left
    · refine ⟨0, x1.E, [], .slice none 0 0, [], by omega, by omega, ?_⟩
      simp only [↓yG, Nat.reduceEqDiff, ↓reduceIte, Int.natCast_add, Int.cast_ofNat_Int, Int.natCast_zero, true_and, and_true, Option.some.injEq, Value.int.injEq]
      exact ⟨hRt, OS.nil hRt.same, hT0⟩
    clear hT0 hRt
    rintro k fr H9 ⟨j, E, D, s, L, rfl, hj, f1, f3, f4, f8, f12, f13, f14, f15, f16, f63, f64, hR, hOs, hT⟩ J hJ
    have hS9 := hR.same
    have hw9 := hS9.wf
    have hlim9 := hw9.1
    by_cases hj1 : j < d.E.length
    · have hEl : E.length = d.E.length := hT.len
      obtain ⟨b, gc, hev, hgc, _, hb0⟩ := hR.ev.own.id_at (show 0 < E.length by omega)
      have hev : x1.ev = .slice (some ⟨b, 0, none⟩) E.length gc := hev
      obtain ⟨p2, p0, p1, po⟩ := hR.ev.at7 (b := b) (gc := gc) (k := j) hev (show j < E.length by omega)
      obtain ⟨g1, g2⟩ := hT.old j (Nat.le_refl _) hj1
      obtain ⟨hok1, hokl, hokE⟩ : (∀ k, k < j → d.E[k]!.id ≠ d.E[j]!.id) ∧ 0 ≤ d.E[j]!.i ∧ d.E[j]!.o ≤ 5184000 := by
        have := hok.2.2.1.2 j hj1
        exact ⟨this.2.2.2, this.1.2.1.1, this.1.2.1.2.2⟩
      have hnx := fun (i o : Int) (hsp : SpOk d.rt to d.E[j]!.i d.E[j]!.o i o) => hT.next hj1 hsp hok1
      have ei : E[j]!.i = d.E[j]!.i := by rw [g1]; rfl
      have eo : E[j]!.o = d.E[j]!.o := by rw [g1]; rfl
      have eid : E[j]!.id = d.E[j]!.id := by rw [g1]; rfl
      rw [ei, eo] at p2
      rw [ei] at p1
      rw [eo] at po
      rw [eid] at p0
      have hia : gia none 7 x1.ev (.int .i64 j) = some (.pointer (some ⟨b, j * 7, none⟩)) := by
        rw [hev]
        have : j < E.length := by omega
        simp [gia, this]
      have q6 : H9.rd c 6 = some x1.ev := mine_rd hR.ac
      have q2 : H9.rd H.len 2 = some (.int .u8 d.rt) := mine_rd hR.a0
      generalize d.E[j]!.i = ei0 at *
      generalize d.E[j]!.o = eo0 at *
      generalize d.E[j]!.id = eid0 at *
      repeat' (first | (exfalso; omega) | refine zn ?_ | refine zK rfl ?_ | refine zP rfl ?_ | ((first | refine zm ?_ | skip); intro _; intros; simp (disch := first | exact zd | fail) only [↓yS, yT, gresults, gone, ↓reduceIte, Nat.reduceEqDiff, Nat.reduceAdd, Nat.reduceMul, reduceCtorEq, Int.reduceToNat, g6, f1, f3, f4, f8, f12, f13, f14, f15, f16, f63, f64, RS, q6, q2, hia, p2]; first | (rename_i K k; (first | refine yC (k _ _ ?_) | refine zg (k _ ?_)); clear k K) | (rename_i A B C D a b c d; (first | refine zx (a ?_) | refine zy (b ?_) | refine zz (fun hc => c ?_) (fun hc => d ?_) | refine zv (b ?_) | refine zw (a ?_)) <;> clear a b c d A B C D <;> try simp only [yL] at hc)) | refine zA ?_ | refine zB ?_ | refine zF ?_)
      refine Gw_s fun K' hK' => G1_callM (by simp only [gtarget, ↓GArg.ev, ↓evs, ↓Tr.get_set, Nat.reduceEqDiff, if_true, if_false, ↓reduceIte, Option.map_some, f1, f3, f4, f8, f12, f13, f14, f15, f16, f63, f64]; rfl) (one_of (spn_ok' hrt ht _)) fun r10 H10 hq => hK' _ _ ?_
      obtain ⟨rfl, rfl⟩ := hq
      rw [updown]
      have hspn := @spn_ok d.rt to ei0 eo0
      generalize spnF d.rt to ei0 eo0 = q at *
      obtain ⟨⟨i', o'⟩, e⟩ := q
      obtain ⟨Hb, hHb⟩ : ∃ Hb, Hb = (H9.add (some (.cells [.int .i64 0, .int .i64 0] 0 true))).put H9.len (.cells (s2C i' o') 0 true) := ⟨_, rfl⟩
      have hSb : Same H9 Hb := hHb ▸ (Same.refl hw9).new _ _
      have hRb := hR.later hSb
      have hOb := hOs.later hSb
      have hwb := hSb.wf
      have hlimb := hwb.1
      have hl9b : H9.len < Hb.len := by rw [hHb]; simp only [len_put, len_add]; omega
      have s0 : ∀ k, Hb.rd H9.len k = (s2C i' o')[k]? := fun k => by rw [hHb, rd_put_same]
      have s02 : Hb.rdn H9.len 0 2 = some (s2 i' o') := by rw [hHb, rdn_s2p]
      have hl19 := mine_lt hw9 hR.a1
      unfold spV
      by_cases he : e = 0
      case neg =>
        have mm := hRb.a1
        repeat' (first | (exfalso; omega) | refine zn ?_ | refine zK rfl ?_ | refine zP rfl ?_ | ((first | refine zm ?_ | skip); intro _; intros; simp (disch := first | exact zd | fail) only [↓yS, yT, gresults, gone, ↓reduceIte, Nat.reduceEqDiff, Nat.reduceAdd, Nat.reduceMul, reduceCtorEq, Int.reduceToNat, g6, f1, f3, f4, f8, f12, f13, f14, f15, f16, f63, f64, RS, hHb.symm, hz8, mm, gsz, rz8]; first | (rename_i K k; (first | refine yC (k _ _ ?_) | refine zg (k _ ?_)); clear k K) | (rename_i A B C D a b c d; (first | refine zx (a ?_) | refine zy (b ?_) | refine zz (fun hc => c ?_) (fun hc => d ?_) | refine zv (b ?_) | refine zw (a ?_)) <;> clear a b c d A B C D <;> try simp only [yL] at hc)) | refine zA ?_ | refine zB ?_ | refine zF ?_)
        all_goals exact hbd he (hRb.same.put (by omega) (by omega) _)
      subst he
      have hsp := hspn (p := (i', o')) rfl
      simp only at hsp
      clear hspn
      have pb := hRb.ev.at7 (b := b) (gc := gc) (k := j) hev (show j < E.length by omega)
      obtain ⟨_, pb0, pb1, pb2⟩ := pb
      simp only at pb0 pb1 pb2
      rw [eid] at pb0
      rw [ei] at pb1
      rw [eo] at pb2
      have hlmb : Hb.lim ≤ m := by
        have h1 := hRb.same.lim
        have h2 := hRb.hm
        omega
      have hset : gmset Hb (.map (some m)) (.int .i64 eid0) (.int .i64 ((j : Int) + 1)) = some (Hb.put m (.dict (dic (dset eid0 (j + 1) L)))) := gmset_dic hRb.am hlmb
      have hRc := hRb.setL (dset eid0 (j + 1) L)
      have hOc := hOb.putD (es' := dic (dset eid0 (j + 1) L)) hRb.am hRb.lm hRb.hm
      have nm : m ≠ H9.len := by have := hR.lm; omega
      have t0 : (Hb.put m (.dict (dic (dset eid0 (j + 1) L)))).rd H9.len 0 = some (.int .i64 i') := by rw [rd_put_ne nm, s0]; rfl
      have t1 : (Hb.put m (.dict (dic (dset eid0 (j + 1) L)))).rd H9.len 1 = some (.int .i64 o') := by rw [rd_put_ne nm, s0]; rfl
      have t02 : (Hb.put m (.dict (dic (dset eid0 (j + 1) L)))).rdn H9.len 0 2 = some (s2 i' o') := by rw [rdn_put_ne nm, s02]
      have pc := hRc.ev.at7 (b := b) (gc := gc) (k := j) hev (show j < E.length by omega)
      obtain ⟨_, pc0, pc1, pc2⟩ := pc
      simp only at pc0 pc1 pc2
      rw [ei] at pc1
      rw [eo] at pc2
      have hlc : H9.len < (Hb.put m (.dict (dic (dset eid0 (j + 1) L)))).len := by rw [len_put]; exact hl9b
      generalize hHc : Hb.put m (.dict (dic (dset eid0 (j + 1) L))) = Hc at *
      have hta := tk_range d.rt
      have htb := tk_range to
      obtain ⟨v1, v1', v2, v2', v3, v3', v4, v4'⟩ : 0 ≤ i' * tk to ∧ i' * tk to ≤ 10378368000 ∧ 0 ≤ ei0 * tk d.rt ∧ ei0 * tk d.rt ≤ 10378368000 ∧ 0 ≤ o' * tk to ∧ o' * tk to ≤ 25945920000 ∧ 0 ≤ eo0 * tk d.rt ∧ eo0 * tk d.rt ≤ 25945920000 := by
        have h1 := hsp.new
        have h2 := hsp.old
        have h3 := Int.mul_le_mul_of_nonneg_left htb.2 (show 0 ≤ o' by omega)
        have h4 := Int.mul_le_mul_of_nonneg_left hta.2 (show 0 ≤ eo0 by omega)
        exact ⟨Int.mul_nonneg h1.1 htb.1, hsp.ti', Int.mul_nonneg h2.1 hta.1, hsp.ti, Int.mul_nonneg (by omega) htb.1, by omega, Int.mul_nonneg (by omega) hta.1, by omega⟩
      have hfd := fill_sp (a := (j : Int) + 1) (b := i' * tk to - ei0 * tk d.rt) (c := o' * tk to - eo0 * tk d.rt)
      repeat' (first | (exfalso; omega) | refine zn ?_ | refine zK rfl ?_ | refine zP rfl ?_ | ((first | refine zm ?_ | skip); intro _; intros; simp (disch := first | exact zd | fail) only [↓yS, yT, gresults, gone, ↓reduceIte, Nat.reduceEqDiff, Nat.reduceAdd, Nat.reduceMul, reduceCtorEq, Int.reduceToNat, g6, f1, f3, f4, f8, f12, f13, f14, f15, f16, f63, f64, RS, RP, hHb.symm, pb0, hset, hHc, t0, t1, pc1, pc2]; first | (rename_i K k; (first | refine yC (k _ _ ?_) | refine zg (k _ ?_)); clear k K) | (rename_i A B C D a b c d; (first | refine zx (a ?_) | refine zy (b ?_) | refine zz (fun hc => c ?_) (fun hc => d ?_) | refine zv (b ?_) | refine zw (a ?_)) <;> clear a b c d A B C D <;> try simp only [yL] at hc)) | refine zA ?_ | refine zB ?_ | refine zF ?_)
      have hdn : drC ((j : Int) + 1, i' * tk to - ei0 * tk d.rt, o' * tk to - eo0 * tk d.rt) = spC ((j : Int) + 1) (i' * tk to - ei0 * tk d.rt) (o' * tk to - eo0 * tk d.rt) := rfl
      have hTn := hnx i' o' hsp
      refine Gw_s fun K' hK' => ?_
      simp (disch := first | exact zd | fail) only [↓yS, yT, ↓reduceIte, Nat.reduceEqDiff, Nat.reduceAdd, Nat.reduceMul, reduceCtorEq, Int.reduceToNat, f1, f3, f4, f8, f12, f13, f14, f15, f16, f63, f64, RS, RP]
      obtain ⟨s', Hd, e, hOd, hB⟩ := hOc.app1 (by decide) (by decide) (news := spC ((j : Int) + 1) (i' * tk to - ei0 * tk d.rt) (o' * tk to - eo0 * tk d.rt)) rfl (b := 24) (by omega) (by omega)
      refine G1_eq e (hK' _ _ ?_)
      clear hK' K' e
      have hRd := hRc.but hB (fun k hk ha => by have := (hOc.ids ha).1; omega) (u := 3) (by decide) (fun k hk => ⟨_, (hOc.ids hk).2.2⟩)
      have hns : ¬ H9.len ∈ idOf s := fun ha => by have := (hOs.ids ha).2.1; omega
      have hod : Hd.obj H9.len = Hc.obj H9.len := hB.obj _ hlc hns
      have w02 : Hd.rdn H9.len 0 2 = some (s2 i' o') := by
        rw [← t02]
        simp only [GHeap.rdn, GHeap.cs, hod]
      have hTl := hTn.len
      rw [List.length_set] at hTl
      have hset2 := evs_setId E j ((j : Int) + 1) (by omega)
      obtain ⟨hRe, hBe, hmb, hb0'⟩ := hRd.setE (E' := E.set j (evTurn E[j]! (j + 1) i' o')) (b := b) (gc := gc) hev (by rw [List.length_set]) (fun y hy => by
        rcases List.mem_or_eq_of_mem_set hy with h | h
        · exact ⟨y, h, rfl, rfl⟩
        · exact ⟨E[j]!, (show E[j]! ∈ E from bang_mem (by omega)), by rw [h]; rfl, by rw [h]; rfl⟩)
      simp only at hmb
      have hbl := mine_lt hRd.same.wf hmb
      have hb9 : b < H9.len := (hR.ev.own.ids (a := b) (by show b ∈ idOf x1.ev; rw [hev]; simp [idOf])).2.1
      have hne : b ≠ H9.len := by omega
      have w02d : (Hd.put b (.dead 7)).rdn H9.len 0 2 = some (s2 i' o') := by rw [rdn_put_ne hne]; exact w02
      repeat' (first | (exfalso; omega) | refine zn ?_ | refine zK rfl ?_ | refine zP rfl ?_ | ((first | refine zm ?_ | skip); intro _; intros; simp (disch := first | exact zd | fail) only [↓yS, yT, gresults, gone, ↓reduceIte, Nat.reduceEqDiff, Nat.reduceAdd, Nat.reduceMul, reduceCtorEq, Int.reduceToNat, g6, f1, f3, f4, f8, f12, f13, f14, f15, f16, f63, f64]; first | (rename_i K k; (first | refine yC (k _ _ ?_) | refine zg (k _ ?_)); clear k K) | (rename_i A B C D a b c d; (first | refine zx (a ?_) | refine zy (b ?_) | refine zz (fun hc => c ?_) (fun hc => d ?_) | refine zv (b ?_) | refine zw (a ?_)) <;> clear a b c d A B C D <;> try simp only [yL] at hc)) | refine zA ?_ | refine zB ?_ | refine zF ?_)
      refine GW_hide (x := .t 18) (v := .pointer (some ⟨b, j * 7, none⟩)) (i := b) (by simp only [↓GArg.ev, ↓yG, Nat.reduceEqDiff, ↓reduceIte]) rfl hbl hmb ?_
      repeat' (first | (exfalso; omega) | refine zn ?_ | refine zK rfl ?_ | refine zP rfl ?_ | ((first | refine zm ?_ | skip); intro _; intros; simp (disch := first | exact zd | fail) only [↓yS, yT, gresults, gone, ↓reduceIte, Nat.reduceEqDiff, Nat.reduceAdd, Nat.reduceMul, reduceCtorEq, Int.reduceToNat, g6, f1, f3, f4, f8, f12, f13, f14, f15, f16, f63, f64, w02d]; first | (rename_i K k; (first | refine yC (k _ _ ?_) | refine zg (k _ ?_)); clear k K) | (rename_i A B C D a b c d; (first | refine zx (a ?_) | refine zy (b ?_) | refine zz (fun hc => c ?_) (fun hc => d ?_) | refine zv (b ?_) | refine zw (a ?_)) <;> clear a b c d A B C D <;> try simp only [yL] at hc)) | refine zA ?_ | refine zB ?_ | refine zF ?_)
      rw [put_put, put_self (mine_obj hmb).2]
      have hxl : (E.flatMap evC).length = E.length * 7 := rows_len evC_len E
      have hst1 : gst none Hd (.pointer (some ⟨b, j * 7, none⟩)) (.int .i64 ((j : Int) + 1)) = some (Hd.put b (.cells ((E.set j { E[j]! with id := (j : Int) + 1 }).flatMap evC) 7 true)) := by
        have hgs : gset (E.flatMap evC) (j * 7) (.int .i64 ((j : Int) + 1)) = some ((E.set j { E[j]! with id := (j : Int) + 1 }).flatMap evC) := by rw [gset_ok (by omega) rfl, hset2]
        rw [gst_1, hmb, Option.bind_some, hgs, Option.bind_some]
      have hm1 : (Hd.put b (.cells ((E.set j { E[j]! with id := (j : Int) + 1 }).flatMap evC) 7 true)).mine b = some ((E.set j { E[j]! with id := (j : Int) + 1 }).flatMap evC, 7) := mine_put_same (mine_obj hmb).1
      have hst2 : gst (some 2) (Hd.put b (.cells ((E.set j { E[j]! with id := (j : Int) + 1 }).flatMap evC) 7 true)) (.pointer (some ⟨b, j * 7 + 1, none⟩)) (s2 i' o') = some (Hd.put b (.cells ((E.set j (evTurn E[j]! (j + 1) i' o')).flatMap evC) 7 true)) := by
        rw [gst_n, hm1, Option.bind_some, evs_gsetn (by rw [List.length_set]; omega), Option.bind_some, put_put, evs_both (by omega)]
      refine Gp_0t (by simp [aims, target, idOf, GArg.ev, Tr.get_set]) fun K' hK' => ?_
      simp (disch := first | exact zd | fail) only [↓yS, yT, ↓reduceIte, Nat.reduceEqDiff, Nat.reduceAdd, Nat.reduceMul, reduceCtorEq, Int.reduceToNat, hst1]
      refine G1_go (hK' _ _ ?_)
      clear hK' K'
      repeat' (first | (exfalso; omega) | refine zn ?_ | refine zK rfl ?_ | refine zP rfl ?_ | ((first | refine zm ?_ | skip); intro _; intros; simp (disch := first | exact zd | fail) only [↓yS, yT, gresults, gone, ↓reduceIte, Nat.reduceEqDiff, Nat.reduceAdd, Nat.reduceMul, reduceCtorEq, Int.reduceToNat, g6, f1, f3, f4, f8, f12, f13, f14, f15, f16, f63, f64, hst2]; first | (rename_i K k; (first | refine yC (k _ _ ?_) | refine zg (k _ ?_)); clear k K) | (rename_i A B C D a b c d; (first | refine zx (a ?_) | refine zy (b ?_) | refine zz (fun hc => c ?_) (fun hc => d ?_) | refine zv (b ?_) | refine zw (a ?_)) <;> clear a b c d A B C D <;> try simp only [yL] at hc)) | refine zA ?_ | refine zB ?_ | refine zF ?_)
      refine hJ _ _ ⟨d.E.length - (j + 1), by omega, j + 1, E.set j (evTurn E[j]! (j + 1) i' o'), D ++ [((j : Int) + 1, i' * tk to - ei0 * tk d.rt, o' * tk to - eo0 * tk d.rt)], s', dset eid0 (j + 1) L, rfl, by omega, ?_⟩
      simp only [↓yG, Nat.reduceEqDiff, ↓reduceIte, Int.natCast_add, Int.cast_ofNat_Int, Int.natCast_zero, true_and, and_true, Option.some.injEq, Value.int.injEq, f1, f3, f4, f8, f12, f14, f15, f16, f63]
      refine ⟨hRe, ?_, hTn⟩
      have hOe : OS 3 3 H (Hd.put b (.cells ((E.set j (evTurn E[j]! (j + 1) i' o')).flatMap evC) 7 true)) s' (j + 1) (D.flatMap drC ++ spC ((j : Int) + 1) (i' * tk to - ei0 * tk d.rt) (o' * tk to - eo0 * tk d.rt)) := hOd.putU hmb hb0' (by decide)
      rw [List.flatMap_append, List.flatMap_cons, List.flatMap_nil, List.append_nil, hdn]
      exact hOe
    · obtain rfl : j = d.E.length := by omega
      clear hJ
      have hEl : E.length = d.E.length := hT.len
      have q6 : H9.rd c 6 = some x1.ev := mine_rd hR.ac
      have q7 : H9.rd H.len 7 = some d.cv := mine_rd hR.a0
      have hslC := hd.cm.rd.isSl
      obtain ⟨x2, hx2⟩ : ∃ x2 : Dc, x2 = { x1 with E := E, last := d.E.length } := ⟨_, rfl⟩
      have gs2 : gset (dcC { x1 with E := E }) 4 (.int .i64 d.E.length) = some (dcC x2) := by rw [gset_ok (by simp [dcC]) rfl, hx2]; rfl
      have hst2 : gst none H9 (.pointer (some ⟨c, 4, none⟩)) (.int .i64 d.E.length) = some (H9.put c (.cells (dcC x2) 0 true)) := by
        rw [gst_1, hR.ac, Option.bind_some, gs2, Option.bind_some]
      have hR2 := hR.setX (x' := x2) (by rw [hx2]) (by rw [hx2]) (by rw [hx2]) (by rw [hx2])
      have hO2 : OS 3 3 H (H9.put c (.cells (dcC x2) 0 true)) s d.E.length (D.flatMap drC) := hOs.putU hR.ac (by have := hR.hc; omega) (by decide)
      have w7 : (H9.put c (.cells (dcC x2) 0 true)).rd H.len 7 = some d.cv := mine_rd hR2.a0
      generalize H9.put c (.cells (dcC x2) 0 true) = Ha at *
      obtain ⟨f, hf0⟩ : ∃ f : Int → Int, ∀ a, f a = (dfind a L).getD 0 := ⟨_, fun _ => rfl⟩
      have hf : ∀ k, k < d.E.length → f d.E[k]!.id = (k : Int) + 1 := fun k hk => by
        rw [hf0, (hT.new k hk).2.2, Option.getD_some]
      have hx2cv : x2.cv = .slice none 0 0 := by rw [hx2]; exact hxcv
      have hx2C : x2.C = [] := by rw [hx2]; exact hxC
      have hx2l : x2.last = d.E.length := by rw [hx2]
      have hx2E : x2.E = E := by rw [hx2]
      have hx2t : x2.ti = d.ti ∧ x2.la = d.la ∧ x2.rt = to ∧ x2.dr = drop ∧ x2.R = d.R := by rw [hx2]; exact ⟨hxti, hxla, hxrt, hxdr, e1R⟩
      have hsl0 := hsl1
      repeat' (first | (exfalso; omega) | refine zn ?_ | refine zK rfl ?_ | refine zP rfl ?_ | ((first | refine zm ?_ | skip); intro _; intros; simp (disch := first | exact zd | fail) only [↓yS, yT, gresults, gone, ↓reduceIte, Nat.reduceEqDiff, Nat.reduceAdd, Nat.reduceMul, reduceCtorEq, Int.reduceToNat, g6, f1, f3, f4, f8, f12, f13, f14, f15, f16, f63, f64, q6, hsl0.len, hst2, w7, hslC.len]; first | (rename_i K k; (first | refine yC (k _ _ ?_) | refine zg (k _ ?_)); clear k K) | (rename_i A B C D a b c d; (first | refine zx (a ?_) | refine zy (b ?_) | refine zz (fun hc => c ?_) (fun hc => d ?_) | refine zv (b ?_) | refine zw (a ?_)) <;> clear a b c d A B C D <;> try simp only [yL] at hc)) | refine zA ?_ | refine zB ?_ | refine zF ?_)
      clear hst2 gs2 q6 q7 w7 hx2 hR hOs hsl0
      refine GW_loop (fun k fr Hx => ∃ (j : Nat) (cv : Value), k = d.C.length - j ∧ j ≤ d.C.length ∧ fr.get 8 = some (.pointer (some ⟨H.len + 1, 0, none⟩)) ∧ fr.get 12 = some (.pointer (some ⟨c, 0, none⟩)) ∧ fr.get 13 = some (s) ∧ fr.get 14 = some (.map (some m)) ∧ fr.get 138 = some (d.cv) ∧ fr.get 139 = some (.int .i64 d.C.length) ∧ fr.get 140 = some (.int .i64 j) ∧
        RtS H Hx c m d { x2 with last := d.E.length + (kc f d.E.length (d.C.take j)).length, cv := cv, C := kc f d.E.length (d.C.take j) } L ∧ OS 3 3 H Hx s d.E.length (D.flatMap drC) ∧ OS 8 8 H Hx cv (kc f d.E.length (d.C.take j)).length ((kc f d.E.length (d.C.take j)).flatMap cmC)) ?_ d.C.length ?_
      rotate_left
      · refine ⟨0, .slice none 0 0, by omega, by omega, ?_⟩
        have e2 : { x2 with last := (d.E.length : Int) + (kc f d.E.length (d.C.take 0)).length, cv := .slice none 0 0, C := kc f d.E.length (d.C.take 0) } = x2 := by
          rw [List.take_zero]
          show Dc.mk x2.ti x2.la x2.rt x2.dr ((d.E.length : Int) + ((0 : Nat) : Int)) x2.rv x2.R x2.ev x2.E (.slice none 0 0) [] = x2
          rw [show (d.E.length : Int) + ((0 : Nat) : Int) = d.E.length by omega, ← hx2l, ← hx2cv, ← hx2C]
        rw [e2]
        simp only [↓yG, Nat.reduceEqDiff, ↓reduceIte, Int.natCast_add, Int.cast_ofNat_Int, Int.natCast_zero, true_and, and_true, Option.some.injEq, Value.int.injEq, f8, f12, f13, f14]
        exact ⟨hR2, hO2, OS.nil hR2.same⟩
      clear hR2 hO2
      rintro k fr Hx ⟨j, cv, rfl, hj, f8, f12, f13, f14, f138, f139, f140, hR, hOs, hOc⟩ J hJ
      have hSx := hR.same
      have hwx := hSx.wf
      have hlimx := hwx.1
      by_cases hj1 : j < d.C.length
      · have e1 := (hd.later hw hSx).cm.rowN hj1
        have htk : d.C.take (j + 1) = d.C.take j ++ [d.C[j]!] := by rw [List.take_succ_eq_append_getElem hj1, getElem!_pos d.C j hj1]
        have hkl := kc_len f (d.C.take j) d.E.length
        rw [List.length_take] at hkl
        have hsn := kc_snoc f d.C[j]! (d.C.take j) d.E.length
        rw [← htk] at hsn
        generalize d.C[j]! = c0 at *
        generalize hK1 : kc f d.E.length (d.C.take (j + 1)) = K1 at *
        generalize kc f d.E.length (d.C.take j) = K0 at *
        obtain ⟨Hb, hHb⟩ : ∃ Hb, Hb = (Hx.add (some (.cells [.int .i64 0, .int .i64 0, .int .i64 0, .int .i64 0, .string ⟨#[]⟩, .string ⟨#[]⟩, .bool false, .bool false] 0 true))).put Hx.len (.cells (cmC c0) 0 true) := ⟨_, rfl⟩
        have hSb : Same Hx Hb := hHb ▸ (Same.refl hwx).new _ _
        have hRb := hR.later hSb
        have hm3 : Hb.mine Hx.len = some (cmC c0, 0) := by
          rw [hHb, mine_put_same]
          exact (mine_obj (mine_add_eq rfl hlimx)).1
        have k7 : Hb.rd Hx.len 7 = some (.bool c0.lo) := mine_rd hm3
        have hclx := mine_lt hwx hR.ac
        have hcne : Hx.len ≠ c := by omega
        have hhc := hR.hc
        cases hlo : c0.lo with
        | true =>
          rw [hlo] at k7
          rw [if_pos hlo, List.append_nil] at hsn
          repeat' (first | (exfalso; omega) | refine zn ?_ | refine zK rfl ?_ | refine zP rfl ?_ | ((first | refine zm ?_ | skip); intro _; intros; simp (disch := first | exact zd | fail) only [↓yS, yT, gresults, gone, ↓reduceIte, Nat.reduceEqDiff, Nat.reduceAdd, Nat.reduceMul, reduceCtorEq, Int.reduceToNat, g6, f8, f12, f13, f14, f138, f139, f140, RC, hslC.ia, e1, hHb.symm, k7, Bool.not_true]; first | (rename_i K k; (first | refine yC (k _ _ ?_) | refine zg (k _ ?_)); clear k K) | (rename_i A B C D a b c d; (first | refine zx (a ?_) | refine zy (b ?_) | refine zz (fun hc => c ?_) (fun hc => d ?_) | refine zv (b ?_) | refine zw (a ?_)) <;> clear a b c d A B C D <;> try simp only [yL] at hc)) | refine zA ?_ | refine zB ?_ | refine zF ?_)
          refine hJ _ _ ⟨d.C.length - (j + 1), by omega, j + 1, cv, rfl, by omega, ?_⟩
          simp only [↓yG, Nat.reduceEqDiff, ↓reduceIte, Int.natCast_add, Int.cast_ofNat_Int, Int.natCast_zero, true_and, and_true, Option.some.injEq, Value.int.injEq, f8, f12, f13, f14, f138, f139]
          rw [hK1, hsn]
          exact ⟨hRb, hOs.later hSb, hOc.later hSb⟩
        | false =>
          rw [hlo] at k7
          rw [if_neg (by rw [hlo]; decide)] at hsn
          have q4 : Hb.rd c 4 = some (.int .i64 ((d.E.length : Int) + K0.length)) := mine_rd hRb.ac
          obtain ⟨x3, hx3⟩ : ∃ x3 : Dc, x3 = { x2 with last := (d.E.length : Int) + K0.length + 1, cv := cv, C := K0 } := ⟨_, rfl⟩
          have gs3 : gset (dcC { x2 with last := (d.E.length : Int) + K0.length, cv := cv, C := K0 }) 4 (.int .i64 ((d.E.length : Int) + K0.length + 1)) = some (dcC x3) := by rw [gset_ok (by simp [dcC]) rfl, hx3]; rfl
          have hst3 : gst none Hb (.pointer (some ⟨c, 4, none⟩)) (.int .i64 ((d.E.length : Int) + K0.length + 1)) = some (Hb.put c (.cells (dcC x3) 0 true)) := by
            rw [gst_1, hRb.ac, Option.bind_some, gs3, Option.bind_some]
          have hR3 := hRb.setX (x' := x3) (by rw [hx3]) (by rw [hx3]) (by rw [hx3]) (by rw [hx3])
          have hOs3 := (hOs.later hSb).putU (c' := dcC x3) hRb.ac (by omega) (by decide)
          have hOc3 := (hOc.later hSb).putU (c' := dcC x3) hRb.ac (by omega) (by decide)
          have hm33 : (Hb.put c (.cells (dcC x3) 0 true)).mine Hx.len = some (cmC c0, 0) := (mine_put_ne hcne.symm).trans hm3
          have w4 : (Hb.put c (.cells (dcC x3) 0 true)).rd c 4 = some (.int .i64 ((d.E.length : Int) + K0.length + 1)) := by rw [mine_rd hR3.ac, hx3]; rfl
          have w1 : (Hb.put c (.cells (dcC x3) 0 true)).rd Hx.len 1 = some (.int .i64 c0.ev) := mine_rd hm33
          have hlk := look_val (a := c0.ev) hR3.am
          rw [← hf0] at hlk
          generalize hHc : Hb.put c (.cells (dcC x3) 0 true) = Hc at *
          obtain ⟨c1, hc1⟩ : ∃ c1 : Cm, c1 = { c0 with id := (d.E.length : Int) + K0.length + 1, ev := f c0.ev } := ⟨_, rfl⟩
          have gs4 : gset (cmC c0) 0 (.int .i64 ((d.E.length : Int) + K0.length + 1)) = some (cmC { c0 with id := (d.E.length : Int) + K0.length + 1 }) := by rw [gset_ok (by simp [cmC]) rfl]; rfl
          have gs5 : gset (cmC { c0 with id := (d.E.length : Int) + K0.length + 1 }) 1 (.int .i64 (f c0.ev)) = some (cmC c1) := by rw [gset_ok (by simp [cmC]) rfl, hc1]; rfl
          have hst4 : gst none Hc (.pointer (some ⟨Hx.len, 0, none⟩)) (.int .i64 ((d.E.length : Int) + K0.length + 1)) = some (Hc.put Hx.len (.cells (cmC { c0 with id := (d.E.length : Int) + K0.length + 1 }) 0 true)) := by
            rw [gst_1, hm33, Option.bind_some, gs4, Option.bind_some]
          have hm34 : (Hc.put Hx.len (.cells (cmC { c0 with id := (d.E.length : Int) + K0.length + 1 }) 0 true)).mine Hx.len = some (cmC { c0 with id := (d.E.length : Int) + K0.length + 1 }, 0) := mine_put_same (mine_obj hm33).1
          have hst5 : gst none (Hc.put Hx.len (.cells (cmC { c0 with id := (d.E.length : Int) + K0.length + 1 }) 0 true)) (.pointer (some ⟨Hx.len, 1, none⟩)) (.int .i64 (f c0.ev)) = some (Hc.put Hx.len (.cells (cmC c1) 0 true)) := by
            rw [gst_1, hm34, Option.bind_some, gs5, Option.bind_some, put_put]
          have hR4 := hR3.put0 (cs' := cmC c1) hm33 (by omega) hcne
          have hOs4 := hOs3.putU (c' := cmC c1) hm33 (by omega) (by decide)
          have hOc4 := hOc3.putU (c' := cmC c1) hm33 (by omega) (by decide)
          have v7 : (Hc.put Hx.len (.cells (cmC c1) 0 true)).rd c 7 = some cv := by rw [mine_rd hR4.ac, hx3]; rfl
          have v8 : (Hc.put Hx.len (.cells (cmC c1) 0 true)).rdn Hx.len 0 8 = some (cmV c1) := rdn_cmp
          have hd1 : (Hc.put Hx.len (.cells (cmC c1) 0 true)).len = Hc.len := len_put
          generalize hHd : Hc.put Hx.len (.cells (cmC c1) 0 true) = Hd at *
          have hfc := fill_cm (c := c1)
          repeat' (first | (exfalso; omega) | refine zn ?_ | refine zK rfl ?_ | refine zP rfl ?_ | ((first | refine zm ?_ | skip); intro _; intros; simp (disch := first | exact zd | fail) only [↓yS, yT, gresults, gone, ↓reduceIte, Nat.reduceEqDiff, Nat.reduceAdd, Nat.reduceMul, reduceCtorEq, Int.reduceToNat, g6, f8, f12, f13, f14, f138, f139, f140, RC, hslC.ia, e1, hHb.symm, k7, Bool.not_false, q4, hst3, hHc, w4, w1, hlk, hst4, hst5, hHd, v7, v8, hfc]; first | (rename_i K k; (first | refine yC (k _ _ ?_) | refine zg (k _ ?_)); clear k K) | (rename_i A B C D a b c d; (first | refine zx (a ?_) | refine zy (b ?_) | refine zz (fun hc => c ?_) (fun hc => d ?_) | refine zv (b ?_) | refine zw (a ?_)) <;> clear a b c d A B C D <;> try simp only [yL] at hc)) | refine zA ?_ | refine zB ?_ | refine zF ?_)
          refine Gw_s fun K' hK' => ?_
          simp (disch := first | exact zd | fail) only [↓yS, yT, ↓reduceIte, Nat.reduceEqDiff, Nat.reduceAdd, Nat.reduceMul, reduceCtorEq, Int.reduceToNat, f8, f12, f13, f14, f138, f139, f140, RC]
          obtain ⟨cv', He, e, hOe, hB⟩ := hOc4.app1 (by decide) (by decide) (news := cmC c1) rfl (b := 72) (by omega) (by omega)
          refine G1_eq e (hK' _ _ ?_)
          clear hK' K' e
          have hR5 := hR4.but hB (fun k hk ha => by have := (hOc4.ids ha).1; omega) (u := 8) (by decide) (fun k hk => ⟨_, (hOc4.ids hk).2.2⟩)
          have hOs5 := hOs4.butU hOc4 (by decide) (Nat.le_refl _) hB
          have hfe := hOe.flat
          obtain ⟨x4, hx4⟩ : ∃ x4 : Dc, x4 = { x2 with last := (d.E.length : Int) + K0.length + 1, cv := cv', C := K1 } := ⟨_, rfl⟩
          have gs6 : gset (dcC x3) 7 cv' = some (dcC x4) := by rw [gset_ok (by simp [dcC]) hfe, hx3, hx4]; rfl
          have hst6 : gst none He (.pointer (some ⟨c, 7, none⟩)) cv' = some (He.put c (.cells (dcC x4) 0 true)) := by
            rw [gst_1, hR5.ac, Option.bind_some, gs6, Option.bind_some]
          have hR6 := hR5.setX (x' := x4) (by rw [hx4, hx3]) (by rw [hx4, hx3]) (by rw [hx4, hx3]) (by rw [hx4, hx3])
          have hOs6 := hOs5.putU (c' := dcC x4) hR5.ac (by omega) (by decide)
          have hOc6 := hOe.putU (c' := dcC x4) hR5.ac (by omega) (by decide)
          repeat' (first | (exfalso; omega) | refine zn ?_ | refine zK rfl ?_ | refine zP rfl ?_ | ((first | refine zm ?_ | skip); intro _; intros; simp (disch := first | exact zd | fail) only [↓yS, yT, gresults, gone, ↓reduceIte, Nat.reduceEqDiff, Nat.reduceAdd, Nat.reduceMul, reduceCtorEq, Int.reduceToNat, g6, f8, f12, f13, f14, f138, f139, f140, hst6]; first | (rename_i K k; (first | refine yC (k _ _ ?_) | refine zg (k _ ?_)); clear k K) | (rename_i A B C D a b c d; (first | refine zx (a ?_) | refine zy (b ?_) | refine zz (fun hc => c ?_) (fun hc => d ?_) | refine zv (b ?_) | refine zw (a ?_)) <;> clear a b c d A B C D <;> try simp only [yL] at hc)) | refine zA ?_ | refine zB ?_ | refine zF ?_)
          refine hJ _ _ ⟨d.C.length - (j + 1), by omega, j + 1, cv', rfl, by omega, ?_⟩
          simp only [↓yG, Nat.reduceEqDiff, ↓reduceIte, Int.natCast_add, Int.cast_ofNat_Int, Int.natCast_zero, true_and, and_true, Option.some.injEq, Value.int.injEq, f8, f12, f13, f14, f138, f139]
          rw [← hc1] at hsn
          have hKl : K1.length = K0.length + 1 := by rw [hsn, List.length_append]; rfl
          have hKc : K1.flatMap cmC = K0.flatMap cmC ++ cmC c1 := by rw [hsn, List.flatMap_append, List.flatMap_cons, List.flatMap_nil, List.append_nil]
          have hlast : (d.E.length : Int) + (K1.length : Int) = (d.E.length : Int) + K0.length + 1 := by omega
          rw [hK1, hlast, hKc, hKl, ← hx4]
          exact ⟨hR6, hOs6, hOc6⟩
      · obtain rfl : j = d.C.length := by omega
        rw [List.take_length] at hR hOc
        obtain ⟨K, hK⟩ : ∃ K, K = kc f d.E.length d.C := ⟨_, rfl⟩
        rw [← hK] at hR hOc
        obtain ⟨x5, hx5⟩ : ∃ x5 : Dc, x5 = { x2 with last := (d.E.length : Int) + K.length, cv := cv, C := K } := ⟨_, rfl⟩
        rw [← hx5] at hR
        have hrc8 : Hx.rdn c 0 8 = some (dcV x5) := by
          simp only [GHeap.rdn, GHeap.cs, (mine_obj hR.ac).2, Option.bind_some]
          rfl
        have mm := hR.a1
        have hm1l := mine_lt hwx mm
        have g1 := hR.rg.flat
        have g2 := hOc.flat
        have g3 := hR.ev.own.flat
        have e5cv : x5.cv = cv := by rw [hx5]
        rw [← e5cv] at g2
        have gs8 : gsetn z8 0 8 (dcV x5) = some (dcC x5) := gsetn_all rfl rfl (by simp [flatV_int, flatV_str, flatV_bool, g1, g2, g3])
        repeat' (first | (exfalso; omega) | refine zn ?_ | refine zK rfl ?_ | refine zP rfl ?_ | ((first | refine zm ?_ | skip); intro _; intros; simp (disch := first | exact zd | fail) only [↓yS, yT, gresults, gone, ↓reduceIte, Nat.reduceEqDiff, Nat.reduceAdd, Nat.reduceMul, reduceCtorEq, Int.reduceToNat, g6, f8, f12, f13, f14, f138, f139, f140, hrc8, mm, gs8, RDc]; first | (rename_i K k; (first | refine yC (k _ _ ?_) | refine zg (k _ ?_)); clear k K) | (rename_i A B C D a b c d; (first | refine zx (a ?_) | refine zy (b ?_) | refine zz (fun hc => c ?_) (fun hc => d ?_) | refine zv (b ?_) | refine zw (a ?_)) <;> clear a b c d A B C D <;> try simp only [yL] at hc)) | refine zA ?_ | refine zB ?_ | refine zF ?_)
        have h5E : x5.E = E := by rw [hx5]; exact hx2E
        have h5C : x5.C = K := by rw [hx5]
        refine hPost _ _ ⟨hSx.put (by omega) hm1l _, .inl ⟨x5, s, D, L, rfl, hok, htk, hdr, ⟨by rw [hx5]; exact hx2t.1, by rw [hx5]; exact hx2t.2.1, by rw [hx5]; exact hx2t.2.2.1, by rw [hx5]; exact hx2t.2.2.2.1, by rw [hx5]; exact hx2t.2.2.2.2, by rw [h5E]; exact hEl, fun i hi => by rw [h5E]; exact (hT.new i hi).1, ⟨f, hf, by rw [h5C, hK]⟩, by rw [hx5]⟩, ⟨?_, ?_, ?_⟩, ?_, by rw [h5E]; exact hT⟩⟩
        · exact (hR.rg.putU (c' := dcC x5) mm (by omega) (by decide)).argN (by decide)
        · exact (EvO.mk (hR.ev.own.putU (c' := dcC x5) mm (by omega) (by decide)) fun y hy => (hR.ev.rows y hy).putU mm (by omega) (by decide) (by decide)).evr
        · have hC5 : OS 8 8 H Hx x5.cv x5.C.length (x5.C.flatMap cmC) := by rw [e5cv, h5C]; exact hOc
          exact (hC5.putU (c' := dcC x5) mm (by omega) (by decide)).argN (by decide)
        · exact (hOs.putU (c' := dcC x5) mm (by omega) (by decide)).rd
end Go.Gh
