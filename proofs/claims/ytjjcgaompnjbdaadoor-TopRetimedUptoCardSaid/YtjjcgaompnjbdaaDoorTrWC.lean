/-
  document, walked: a copy of a document.
-/
import Derived.Test.YtjjcgaompnjbdaaDoorTrWB
namespace Go.Gh
set_option linter.unusedSimpArgs false
set_option linter.unusedVariables false
set_option maxHeartbeats 4000000
open Go.RowKit
set_option maxRecDepth 4000

/-- events of one's own -/
structure EvO (H0 H : GHeap) (v : Value) (E : List Ev) : Prop where
  own : OS 7 7 H0 H v E.length (E.flatMap evC)
  rows : ∀ e ∈ E, TO H0 H e.v e.L
theorem EvO.evr {H0 H : GHeap} {v : Value} {E : List Ev} (h : EvO H0 H v E) : EvR H v E := ⟨h.own.argN (by decide), fun e he => (h.rows e he).tr⟩
theorem EvO.later {H0 H H' : GHeap} {v : Value} {E : List Ev} (h : EvO H0 H v E) (hs : Same H H') : EvO H0 H' v E := ⟨h.own.later hs, fun e he => (h.rows e he).later hs⟩
/-- what a copy of a document is -/
structure DcOut (H0 H : GHeap) (d x : Dc) : Prop where
  ti : x.ti = d.ti
  la : x.la = d.la
  rt : x.rt = d.rt
  dr : x.dr = d.dr
  last : x.last = d.last
  R : x.R = d.R
  C : x.C = d.C
  rg : OS 7 7 H0 H x.rv d.R.length (d.R.flatMap rgC)
  cm : OS 8 8 H0 H x.cv d.C.length (d.C.flatMap cmC)
  ev : EvO H0 H x.ev x.E
  len : x.E.length = d.E.length
  eq : ∀ j, j < d.E.length → x.E[j]! = evWith d.E[j]! x.E[j]!.v x.E[j]!.L ∧ x.E[j]!.L.map (·.2) = d.E[j]!.L.map (·.2)
  dis : ∀ a ∈ idOf x.rv, ¬ a ∈ idOf x.ev
theorem OS.id_at {s u n : Nat} {H0 H : GHeap} {v : Value} {xs : List Value} (h : OS s u H0 H v n xs) (hn : 0 < n) : ∃ i gc, v = .slice (some ⟨i, 0, none⟩) n gc ∧ (gc = 0 ∨ gc = n + 1) ∧ H.mine i = some (xs, u) ∧ H0.len ≤ i := by
  rcases h.own.at_ with ⟨_, e⟩ | ⟨i, gc, e, hg, hm⟩
  · omega
  · exact ⟨i, gc, e, hg, hm, (h.ids (a := i) (by rw [e]; simp [idOf])).1⟩
theorem dclone_ok {H : GHeap} (hw : H.wf) {d : Dc} (hd : DcR H d) (hs : SmD d) : ∃ r H', gev G 14 [dcV d] H = some (r, H') ∧ ∃ x, r = dcV x ∧ DcOut H H' d x := by
  refine gev_GW (f := 14) rfl fun Post hPost => ?_
  have hlim := hw.1
  have fd := dc_cflat hd
  have hEn := hs.E.1
  simp only [frameOf, Nat.reduceAdd]
  obtain ⟨H1, hH1⟩ : ∃ H1, H1 = (H.add (some (.cells (dcC d) 0 true))).add (some (.cells [.string ⟨#[]⟩, .string ⟨#[]⟩, .int .u8 0, .bool false, .int .i64 0, .slice none 0 0, .slice none 0 0, .slice none 0 0] 0 true)) := ⟨_, rfl⟩
  have hS1 : Same H H1 := hH1 ▸ ((Same.refl hw).add _).add _
  have hl1 : H1.len = H.len + 2 := by rw [hH1]; simp only [len_add]
  have hw1 := hS1.wf
  have m0 : H1.mine H.len = some (dcC d, 0) := by rw [hH1, mine_add_ne (by rw [len_add]; omega), mine_add_eq rfl hw.1]
  have m1 : H1.mine (H.len + 1) = some ([.string ⟨#[]⟩, .string ⟨#[]⟩, .int .u8 0, .bool false, .int .i64 0, .slice none 0 0, .slice none 0 0, .slice none 0 0], 0) := by
    rw [hH1, mine_add_eq (by rw [len_add]) (by rw [lim_add]; omega)]
  have q5 : H1.rd H.len 5 = some d.rv := mine_rd m0
  repeat' (first | refine zn ?_ | refine zK rfl ?_ | refine zP rfl ?_ | ((first | refine zm ?_ | skip); intro _; intros; simp (disch := first | exact zd | fail) only [↓yS, yT, gresults, gone, ↓reduceIte, Nat.reduceEqDiff, Nat.reduceAdd, Nat.reduceMul, reduceCtorEq, Int.reduceToNat, g14, RDc, fd, hH1.symm, q5]; first | (rename_i K k; (first | refine yC (k _ _ ?_) | refine zg (k _ ?_)); clear k K) | (rename_i A B C D a b c d; (first | refine zx (a ?_) | refine zy (b ?_) | refine zz (fun hc => c ?_) (fun hc => d ?_) | refine zv (b ?_) | refine zw (a ?_)) <;> clear a b c d A B C D <;> try simp only [yL] at hc)) | refine zA ?_ | refine zB ?_ | refine zF ?_)
  clear hH1
  refine Gw_s fun K' hK' => G1_callM (by simp only [gtarget, ↓GArg.ev, ↓evs, ↓Tr.get_set, Nat.reduceEqDiff, if_true, if_false, ↓reduceIte, Option.map_some]; rfl) (cloneG_ok (wf_up hw1) (GArg1.same hd.rg hw hS1 |> fun h => ⟨h.rd, h.sl⟩) hs.R.1) fun r2 H2 hO => hK' _ _ ?_
  have hG := OS.down hw1 hO
  generalize H2.down H1.lim = H3 at *
  clear hO
  have m03 := (hG.same.mine (show H.len < H1.len by omega)).trans m0
  have q7 : H3.rd H.len 7 = some d.cv := mine_rd m03
  repeat' (first | refine zn ?_ | refine zK rfl ?_ | refine zP rfl ?_ | ((first | refine zm ?_ | skip); intro _; intros; simp (disch := first | exact zd | fail) only [↓yS, yT, gresults, gone, ↓reduceIte, Nat.reduceEqDiff, Nat.reduceAdd, Nat.reduceMul, reduceCtorEq, Int.reduceToNat, g14, q7]; first | (rename_i K k; (first | refine yC (k _ _ ?_) | refine zg (k _ ?_)); clear k K) | (rename_i A B C D a b c d; (first | refine zx (a ?_) | refine zy (b ?_) | refine zz (fun hc => c ?_) (fun hc => d ?_) | refine zv (b ?_) | refine zw (a ?_)) <;> clear a b c d A B C D <;> try simp only [yL] at hc)) | refine zA ?_ | refine zB ?_ | refine zF ?_)
  have hS3 := hS1.trans hG.same
  refine Gw_s fun K' hK' => G1_callM (by simp only [gtarget, ↓GArg.ev, ↓evs, ↓Tr.get_set, Nat.reduceEqDiff, if_true, if_false, ↓reduceIte, Option.map_some]; rfl) (cloneC_ok (wf_up hG.same.wf) (GArg1.same hd.cm hw hS3 |> fun h => ⟨h.rd, h.sl⟩) hs.C.1) fun r4 H4 hO => hK' _ _ ?_
  have hC := OS.down hG.same.wf hO
  generalize H4.down H3.lim = H5 at *
  clear hO
  have hG5 := hG.later hC.same
  have hC5 := hC.weaken hG.same
  have hS5 := hS1.trans hG5.same
  have m05 := (hG5.same.mine (show H.len < H1.len by omega)).trans m0
  have m15 := (hG5.same.mine (show H.len + 1 < H1.len by omega)).trans m1
  have hf2 := hG5.flat
  have hf4 := hC5.flat
  have hl5 := hG5.same.len
  have hlim5 := hS5.wf.1
  obtain ⟨d1, hd1⟩ : ∃ d1 : Dc, d1 = { d with rv := r2, cv := r4 } := ⟨_, rfl⟩
  have hst1 : gst none H5 (.pointer (some ⟨H.len, 5, none⟩)) r2 = some (H5.put H.len (.cells (dcC { d with rv := r2 }) 0 true)) := by
    rw [gst_1, m05, Option.bind_some, gset_ok (by simp [dcC]) hf2]; rfl
  have m05' : (H5.put H.len (.cells (dcC { d with rv := r2 }) 0 true)).mine H.len = some (dcC { d with rv := r2 }, 0) := mine_put_same (mine_obj m05).1
  have hst2 : gst none (H5.put H.len (.cells (dcC { d with rv := r2 }) 0 true)) (.pointer (some ⟨H.len, 7, none⟩)) r4 = some (H5.put H.len (.cells (dcC d1) 0 true)) := by
    rw [gst_1, m05', Option.bind_some, gset_ok (by simp [dcC]) hf4, Option.bind_some, put_put, hd1]; rfl
  -- the heap behind
  have hG6 := hG5.putL hS1 (Nat.le_refl _) (show H.len < H1.len by omega) (.cells (dcC d1) 0 true)
  have hC6 := hC5.putL hS1 (Nat.le_refl _) (show H.len < H1.len by omega) (.cells (dcC d1) 0 true)
  have m06 : (H5.put H.len (.cells (dcC d1) 0 true)).mine H.len = some (dcC d1, 0) := mine_put_same (mine_obj m05).1
  have m16 : (H5.put H.len (.cells (dcC d1) 0 true)).mine (H.len + 1) = _ := (mine_put_ne (by omega)).trans m15
  have hl6 : H1.len ≤ (H5.put H.len (.cells (dcC d1) 0 true)).len := by rw [len_put]; exact hl5
  have q66 : (H5.put H.len (.cells (dcC d1) 0 true)).rd H.len 6 = some d.ev := by rw [mine_rd m06, hd1]; rfl
  have hevl := hd.ev.later hw hS5
  have hev6 : EvR (H5.put H.len (.cells (dcC d1) 0 true)) d.ev d.E := hd.ev.later hw hG6.same
  generalize hH6 : H5.put H.len (.cells (dcC d1) 0 true) = H6 at *
  have e0 : d1.ev = d.ev := by rw [hd1]
  repeat' (first | refine zn ?_ | refine zK rfl ?_ | refine zP rfl ?_ | ((first | refine zm ?_ | skip); intro _; intros; simp (disch := first | exact zd | fail) only [↓yS, yT, gresults, gone, ↓reduceIte, Nat.reduceEqDiff, Nat.reduceAdd, Nat.reduceMul, reduceCtorEq, Int.reduceToNat, g14, hst1, hst2, hH6, q66]; first | (rename_i K k; (first | refine yC (k _ _ ?_) | refine zg (k _ ?_)); clear k K) | (rename_i A B C D a b c d; (first | refine zx (a ?_) | refine zy (b ?_) | refine zz (fun hc => c ?_) (fun hc => d ?_) | refine zv (b ?_) | refine zw (a ?_)) <;> clear a b c d A B C D <;> try simp only [yL] at hc)) | refine zA ?_ | refine zB ?_ | refine zF ?_)
  refine Gw_s fun K' hK' => G1_call (by simp only [gtarget, ↓GArg.ev, ↓evs, ↓Tr.get_set, Nat.reduceEqDiff, if_true, if_false, ↓reduceIte, Option.map_some, q66]; rfl) (cloneE_ok hG6.same.wf hev6.rd hs.E.1) fun r7 H7 hE => hK' _ _ ?_
  have hG7 := hG6.later hE.same
  have hC7 := hC6.later hE.same
  have hE7 := hE.weaken hG6.same
  have hl67 := hE.same.len
  have m07 := (hE.same.mine (show H.len < H6.len by omega)).trans m06
  have m17 := (hE.same.mine (show H.len + 1 < H6.len by omega)).trans m16
  have hf7 := hE.flat
  have hdis : ∀ a ∈ idOf r2, ¬ a ∈ idOf r7 := fun a ha hb => by
    have h1 := (hG6.ids ha).2.1
    have h2 := (hE.ids hb).1
    omega
  obtain ⟨d2, hd2⟩ : ∃ d2 : Dc, d2 = { d1 with ev := r7 } := ⟨_, rfl⟩
  have hst3 : gst none H7 (.pointer (some ⟨H.len, 6, none⟩)) r7 = some (H7.put H.len (.cells (dcC d2) 0 true)) := by
    rw [gst_1, m07, Option.bind_some, gset_ok (by simp [dcC]) hf7, hd2]; rfl
  have hu7 : ∀ {s n : Nat} {v : Value} {xs : List Value}, s ≠ 0 → OS s s H H7 v n xs → OS s s H (H7.put H.len (.cells (dcC d2) 0 true)) v n xs := fun hs h => h.putU m07 (Nat.le_refl _) hs
  have hG8 := hu7 (by decide) hG7
  have hC8 := hu7 (by decide) hC7
  have hE8 := hu7 (by decide) hE7
  have m08 : (H7.put H.len (.cells (dcC d2) 0 true)).mine H.len = some (dcC d2, 0) := mine_put_same (mine_obj m07).1
  have m18 : (H7.put H.len (.cells (dcC d2) 0 true)).mine (H.len + 1) = _ := (mine_put_ne (by omega)).trans m17
  have q86 : (H7.put H.len (.cells (dcC d2) 0 true)).rd H.len 6 = some r7 := by rw [mine_rd m08, hd2]; rfl
  generalize hH8 : H7.put H.len (.cells (dcC d2) 0 true) = H8 at *
  have hsl : IsSl r7 d.E.length := hE8.rd.isSl
  repeat' (first | refine zn ?_ | refine zK rfl ?_ | refine zP rfl ?_ | ((first | refine zm ?_ | skip); intro _; intros; simp (disch := first | exact zd | fail) only [↓yS, yT, gresults, gone, ↓reduceIte, Nat.reduceEqDiff, Nat.reduceAdd, Nat.reduceMul, reduceCtorEq, Int.reduceToNat, g14, hst3, hH8, q86, hsl.len]; first | (rename_i K k; (first | refine yC (k _ _ ?_) | refine zg (k _ ?_)); clear k K) | (rename_i A B C D a b c d; (first | refine zx (a ?_) | refine zy (b ?_) | refine zz (fun hc => c ?_) (fun hc => d ?_) | refine zv (b ?_) | refine zw (a ?_)) <;> clear a b c d A B C D <;> try simp only [yL] at hc)) | refine zA ?_ | refine zB ?_ | refine zF ?_)
  clear hst1 hst2 hst3 hH6 hH8 m05 m05' m15 m06 m16 m07 m17 hG5 hC5 hG6 hC6 hG7 hC7 hE7 hev6 hevl
  refine GW_loop (fun k fr H9 => ∃ (j : Nat) (E : List Ev), k = d.E.length - j ∧ j ≤ d.E.length ∧ fr.get 1 = some (.pointer (some ⟨H.len, 0, none⟩)) ∧ fr.get 2 = some (.pointer (some ⟨H.len + 1, 0, none⟩)) ∧ fr.get 18 = some (r7) ∧ fr.get 19 = some (.int .i64 d.E.length) ∧ fr.get 20 = some (.int .i64 j) ∧ E.length = d.E.length ∧
    OS 7 7 H H9 r2 d.R.length (d.R.flatMap rgC) ∧ OS 8 8 H H9 r4 d.C.length (d.C.flatMap cmC) ∧ OS 7 7 H H9 r7 d.E.length (E.flatMap evC) ∧ H9.mine H.len = some (dcC d2, 0) ∧
    H9.mine (H.len + 1) = some ([.string ⟨#[]⟩, .string ⟨#[]⟩, .int .u8 0, .bool false, .int .i64 0, .slice none 0 0, .slice none 0 0, .slice none 0 0], 0) ∧
    (∀ i, i < j → TO H H9 E[i]!.v E[i]!.L) ∧ (∀ i, j ≤ i → E[i]! = d.E[i]!) ∧ ∀ i, i < d.E.length → E[i]! = evWith d.E[i]! E[i]!.v E[i]!.L ∧ E[i]!.L.map (·.2) = d.E[i]!.L.map (·.2)) ?_ d.E.length ?_
  case refine_2 =>
    refine ⟨0, d.E, by omega, by omega, ?_⟩
    simp only [↓yG, Nat.reduceEqDiff, ↓reduceIte, Int.natCast_add, Int.cast_ofNat_Int, Int.natCast_zero, true_and, and_true, Option.some.injEq, Value.int.injEq]
    exact ⟨hG8, hC8, hE8, m08, m18, fun i hi => absurd hi (by omega), fun i _ => trivial, fun i _ => rfl⟩
  clear hG8 hC8 hE8 m08 m18 q86
  rintro k fr H9 ⟨j, E, rfl, hj, f1, f2, f18, f19, f20, hEl, hG, hC, hE, m0, m1, hrw, hel, heq⟩ J hJ
  have hS9 := hE.same
  have hw9 := hS9.wf
  have hlim9 := hw9.1
  by_cases hj1 : j < d.E.length
  · obtain ⟨b, gc, ev, hgc, hm7, hb0⟩ := hE.id_at (by omega)
    have hrd : H9.rdn (blk r7) (ofs r7 + j * 7) 7 = some (evV d.E[j]!) := by
      have := GRd.rowN (f := evC) hE.rd evC_len (by decide) (k := j) (by omega)
      rw [hel j (Nat.le_refl _)] at this
      exact this
    have hT := hd.ev.at_ hj1
    have hse := hs.E.2 _ (bang_mem hj1)
    have hfe := hT.rd.flat
    generalize hej : d.E[j]! = e at *
    have gse := gsetn_ev (cs := [.int .i64 0, .int .i64 0, .int .i64 0, .string ⟨#[]⟩, .int .u8 0, .string ⟨#[]⟩, .slice none 0 0]) (e := e) rfl hfe
    obtain ⟨Ha, hHa⟩ : ∃ Ha, Ha = (H9.add (some (.cells [.int .i64 0, .int .i64 0, .int .i64 0, .string ⟨#[]⟩, .int .u8 0, .string ⟨#[]⟩, .slice none 0 0] 0 true))).put H9.len (.cells (evC e) 0 true) := ⟨_, rfl⟩
    have hSa : Same H9 Ha := hHa ▸ (Same.refl hw9).new _ _
    have hwa := hSa.wf
    have k7 : Ha.rdn H9.len 0 7 = some (evV e) := by rw [hHa, rdn_evp]
    have hl0 : H.len + 1 < H9.len := mine_lt hw9 m1
    have w6 : Ha.rd H.len 6 = some r7 := by rw [hSa.rd (by omega), mine_rd m0, hd2]; rfl
    have hst := hHa.symm
    have hb1 := mine_lt hw9 hm7
    clear hHa
    repeat' (first | (exfalso; omega) | refine zn ?_ | refine zK rfl ?_ | refine zP rfl ?_ | ((first | refine zm ?_ | skip); intro _; intros; simp (disch := first | exact zd | fail) only [↓yS, yT, gresults, gone, ↓reduceIte, Nat.reduceEqDiff, Nat.reduceAdd, Nat.reduceMul, reduceCtorEq, Int.reduceToNat, g14, f1, f2, f18, f19, f20, hsl.ia, hrd, gse, hst, w6, k7]; first | (rename_i K k; (first | refine yC (k _ _ ?_) | refine zg (k _ ?_)); clear k K) | (rename_i A B C D a b c d; (first | refine zx (a ?_) | refine zy (b ?_) | refine zz (fun hc => c ?_) (fun hc => d ?_) | refine zv (b ?_) | refine zw (a ?_)) <;> clear a b c d A B C D <;> try simp only [yL] at hc)) | refine zA ?_ | refine zB ?_ | refine zF ?_)
    refine Gw_s fun K' hK' => G1_callM (by simp only [gtarget, ↓GArg.ev, ↓evs, ↓Tr.get_set, Nat.reduceEqDiff, if_true, if_false, ↓reduceIte, Option.map_some, f1, f2, f18, f19, f20]; rfl) (cloneV_ok (wf_up hwa) (hT.later hw (hS9.trans hSa)).up hse) fun r3 Hb hq => hK' _ _ ?_
    obtain ⟨v, L, rfl, hO, hL⟩ := hq
    have hO1 : TO Ha (Hb.down Ha.lim) v L := ⟨OS.down hwa hO.own, fun x hx => OS.down hwa (hO.rows x hx)⟩
    generalize Hb.down Ha.lim = Hc at *
    clear hO
    have hSac := hO1.own.same
    have hS9c := hSa.trans hSac
    have hm7c := (hS9c.mine hb1).trans hm7
    have hfv := hO1.own.flat
    have hEc := hE.later hS9c
    have hxl : (E.flatMap evC).length = d.E.length * 7 := by rw [rows_len evC_len, hEl]
    have hofs : ofs r7 + j * 7 = 0 + j * 7 := by rw [ev]; rfl
    have hblk : blk r7 = b := by rw [ev]; rfl
    have hset := rows_set (f := evC) evC_len E j (evWith e v L) (by omega)
    have hst4 : gst (some 7) Hc (.pointer (some ⟨b, j * 7, none⟩)) (evV (evWith e v L)) = some (Hc.put b (.cells ((E.set j (evWith e v L)).flatMap evC) 7 true)) := by
      rw [gst_n, hm7c, Option.bind_some]
      have := gsetn_ok (cs := E.flatMap evC) (o := j * 7) (n := 7) (vs := (evC (evWith e v L)).toArray) (by omega) rfl (by simp [evC, flatV_int, flatV_str, evWith, hfv])
      rw [show evV (evWith e v L) = .agg (evC (evWith e v L)).toArray from rfl, this, Option.bind_some, ← hset]
    rw [Nat.zero_add] at hofs
    obtain ⟨hEd, hB⟩ := hEc.setc ev (ys := (E.set j (evWith e v L)).flatMap evC) (by rw [rows_len evC_len, rows_len evC_len, List.length_set])
    have hm0c := (hS9c.mine (show H.len < H9.len by omega)).trans m0
    have hm1c := (hS9c.mine hl0).trans m1
    have hne0 : b ≠ H.len := fun h => by rw [h, hm0c] at hm7c; simp at hm7c
    have hne1 : b ≠ H.len + 1 := fun h => by rw [h, hm1c] at hm7c; simp at hm7c
    have hTk : ∀ {x : Value} {l : List VR'}, TO H Hc x l → TO H (Hc.put b (.cells ((E.set j (evWith e v L)).flatMap evC) 7 true)) x l := fun h => h.putU hm7c hb0 (by decide) (by decide)
    repeat' (first | (exfalso; omega) | refine zn ?_ | refine zK rfl ?_ | refine zP rfl ?_ | ((first | refine zm ?_ | skip); intro _; intros; simp (disch := first | exact zd | fail) only [↓yS, yT, gresults, gone, ↓reduceIte, Nat.reduceEqDiff, Nat.reduceAdd, Nat.reduceMul, reduceCtorEq, Int.reduceToNat, g14, f1, f2, f18, f19, f20, hsl.ia, hblk, hofs, hst4]; first | (rename_i K k; (first | refine yC (k _ _ ?_) | refine zg (k _ ?_)); clear k K) | (rename_i A B C D a b c d; (first | refine zx (a ?_) | refine zy (b ?_) | refine zz (fun hc => c ?_) (fun hc => d ?_) | refine zv (b ?_) | refine zw (a ?_)) <;> clear a b c d A B C D <;> try simp only [yL] at hc)) | refine zA ?_ | refine zB ?_ | refine zF ?_)
    have hbang : ∀ i, (E.set j (evWith e v L))[i]! = if i = j then evWith e v L else E[i]! := fun i => by
      by_cases h : i = j
      · subst h
        rw [if_pos rfl, getElem!_pos _ _ (by rw [List.length_set]; omega)]; simp
      · rw [if_neg h]
        by_cases h2 : i < E.length
        · rw [getElem!_pos _ _ (by rw [List.length_set]; exact h2), getElem!_pos E i h2, List.getElem_set_ne (by omega)]
        · rw [getElem!_neg _ _ (by rw [List.length_set]; exact h2), getElem!_neg E i h2]
    refine hJ _ _ ⟨d.E.length - (j + 1), by omega, j + 1, E.set j (evWith e v L), rfl, by omega, ?_⟩
    simp only [↓yG, Nat.reduceEqDiff, ↓reduceIte, Int.natCast_add, Int.cast_ofNat_Int, Int.natCast_zero, true_and, and_true, Option.some.injEq, Value.int.injEq, f1, f2, f18, f19]
    refine ⟨by rw [List.length_set]; exact hEl, ?_, OS.putU (hC.later hS9c) hm7c hb0 (by decide), hEd, (mine_put_ne hne0).trans hm0c, (mine_put_ne hne1).trans hm1c, fun i hi => ?_, fun i hi => ?_, fun i hi => ?_⟩
    · exact (hG.later hS9c).but hB (fun k hk e => by omega) fun a ha e => hdis a ha (by rw [ev, e]; simp [idOf])
    · rw [hbang]
      split
      · exact hTk (hO1.weaken (hS9.trans hSa))
      · have h := hrw i (by omega)
        exact hTk ⟨h.own.later hS9c, fun x hx => (h.rows x hx).later hS9c⟩
    · rw [hbang, if_neg (by omega)]; exact hel i (by omega)
    · rw [hbang]
      split
      · rename_i h; subst h; rw [hej]; exact ⟨rfl, hL⟩
      · exact heq i hi
  · obtain rfl : j = d.E.length := by omega
    have w8 : H9.rdn H.len 0 8 = some (dcV d2) := by
      simp only [GHeap.rdn, GHeap.cs, (mine_obj m0).2, Option.bind_some]
      rfl
    have hl9 := mine_lt hw9 m1
    have gsd : ∀ {cs : List Value}, cs.length = 8 → gsetn cs 0 8 (dcV d2) = some (dcC d2) := fun h => gsetn_all h rfl (by
      have f1 := hG.flat
      have f2 := hC.flat
      have f3 := hE.flat
      rw [hd2, hd1]
      simp [flatV_int, flatV_str, flatV_bool, f1, f2, f3])
    repeat' (first | (exfalso; omega) | refine zn ?_ | refine zK rfl ?_ | refine zP rfl ?_ | ((first | refine zm ?_ | skip); intro _; intros; simp (disch := first | exact zd | fail) only [↓yS, yT, gresults, gone, ↓reduceIte, Nat.reduceEqDiff, Nat.reduceAdd, Nat.reduceMul, reduceCtorEq, Int.reduceToNat, g14, f1, f2, f18, f19, f20, RDc, w8, m1, gsd]; first | (rename_i K k; (first | refine yC (k _ _ ?_) | refine zg (k _ ?_)); clear k K) | (rename_i A B C D a b c d; (first | refine zx (a ?_) | refine zy (b ?_) | refine zz (fun hc => c ?_) (fun hc => d ?_) | refine zv (b ?_) | refine zw (a ?_)) <;> clear a b c d A B C D <;> try simp only [yL] at hc)) | refine zA ?_ | refine zB ?_ | refine zF ?_)
    have hput : ∀ {s n : Nat} {v : Value} {xs : List Value}, s ≠ 0 → OS s s H H9 v n xs → OS s s H (H9.put (H.len + 1) (.cells (dcC d2) 0 true)) v n xs := fun hs h => h.putU m1 (by omega) hs
    have g1 : d2.rv = r2 := by rw [hd2, hd1]
    have g2 : d2.cv = r4 := by rw [hd2, hd1]
    have g3 : d2.ev = r7 := by rw [hd2]
    refine hPost _ _ ⟨{ d2 with E := E }, rfl, by rw [hd2, hd1], by rw [hd2, hd1], by rw [hd2, hd1], by rw [hd2, hd1], by rw [hd2, hd1], by rw [hd2, hd1], by rw [hd2, hd1], ?_, ?_, ⟨?_, fun e he => ?_⟩, hEl, heq, ?_⟩
    · show OS 7 7 H _ d2.rv d.R.length (d.R.flatMap rgC)
      rw [g1]; exact hput (by decide) hG
    · show OS 8 8 H _ d2.cv d.C.length (d.C.flatMap cmC)
      rw [g2]; exact hput (by decide) hC
    · show OS 7 7 H _ d2.ev E.length (E.flatMap evC)
      rw [g3, hEl]; exact hput (by decide) hE
    · obtain ⟨i, hi, rfl⟩ := List.getElem_of_mem he
      have hi' : i < E.length := hi
      have := hrw i (by omega)
      rw [getElem!_pos E i hi'] at this
      exact this.putU m1 (by omega) (by decide) (by decide)
    · show ∀ a ∈ idOf d2.rv, ¬ a ∈ idOf d2.ev
      rw [g1, g3]; exact hdis
end Go.Gh
