/-
  event, walked: spans, kinds, the order of events.
-/
import Derived.Test.YtjjcgaompnjbdaaDoorTrW4
namespace Go.Gh
set_option linter.unusedSimpArgs false
set_option linter.unusedVariables false
set_option maxHeartbeats 4000000
open Go.RowKit
set_option maxRecDepth 4000

theorem spans_ok {i o : Int} (H : GHeap) : gev G 31 [s2 i o] H = some (.bool (decide (0 ≤ i ∧ i < o ∧ o ≤ 5184000)), H) := by
  refine gev_GWP (f := 31) rfl (by simp only [List.all_cons, List.all_nil, s2_lit, Bool.and_true]) rfl (fun Post hPost => ?_) H
  have hw := root_wf
  have hlim := hw.1
  simp only [frameOf, Nat.reduceAdd]
  by_cases h : 0 ≤ i ∧ i < o ∧ o ≤ 5184000
  · rw [decide_eq_true h] at hPost
    have d1 : decide (0 ≤ i) = true := decide_eq_true h.1
    have d2 : decide (i < o) = true := decide_eq_true h.2.1
    have d3 : decide (o ≤ 5184000) = true := decide_eq_true h.2.2
    repeat' (first | refine zn ?_ | refine zK rfl ?_ | refine zP rfl ?_ | ((first | refine zm ?_ | skip); intro _; intros; simp (disch := first | exact zd | fail) only [↓yS, yT, gresults, gone, ↓reduceIte, Nat.reduceEqDiff, Nat.reduceAdd, Nat.reduceMul, reduceCtorEq, Int.reduceToNat, g31, RS, d1, d2, d3]; first | (rename_i K k; (first | refine yC (k _ _ ?_) | refine zg (k _ ?_)); clear k K) | (rename_i A B C D a b c d; (first | refine zx (a ?_) | refine zy (b ?_) | refine zz (fun hc => c ?_) (fun hc => d ?_) | refine zv (b ?_) | refine zw (a ?_)) <;> clear a b c d A B C D <;> try simp only [yL] at hc)) | refine zA ?_ | refine zB ?_ | refine zF ?_)
    exact hPost _
  · rw [decide_eq_false h] at hPost
    by_cases h1 : 0 ≤ i
    · by_cases h2 : i < o
      · have d1 : decide (0 ≤ i) = true := decide_eq_true h1
        have d2 : decide (i < o) = true := decide_eq_true h2
        have d3 : decide (o ≤ 5184000) = false := decide_eq_false fun h3 => h ⟨h1, h2, h3⟩
        repeat' (first | refine zn ?_ | refine zK rfl ?_ | refine zP rfl ?_ | ((first | refine zm ?_ | skip); intro _; intros; simp (disch := first | exact zd | fail) only [↓yS, yT, gresults, gone, ↓reduceIte, Nat.reduceEqDiff, Nat.reduceAdd, Nat.reduceMul, reduceCtorEq, Int.reduceToNat, g31, RS, d1, d2, d3]; first | (rename_i K k; (first | refine yC (k _ _ ?_) | refine zg (k _ ?_)); clear k K) | (rename_i A B C D a b c d; (first | refine zx (a ?_) | refine zy (b ?_) | refine zz (fun hc => c ?_) (fun hc => d ?_) | refine zv (b ?_) | refine zw (a ?_)) <;> clear a b c d A B C D <;> try simp only [yL] at hc)) | refine zA ?_ | refine zB ?_ | refine zF ?_)
        exact hPost _
      · have d1 : decide (0 ≤ i) = true := decide_eq_true h1
        have d2 : decide (i < o) = false := decide_eq_false h2
        repeat' (first | refine zn ?_ | refine zK rfl ?_ | refine zP rfl ?_ | ((first | refine zm ?_ | skip); intro _; intros; simp (disch := first | exact zd | fail) only [↓yS, yT, gresults, gone, ↓reduceIte, Nat.reduceEqDiff, Nat.reduceAdd, Nat.reduceMul, reduceCtorEq, Int.reduceToNat, g31, RS, d1, d2]; first | (rename_i K k; (first | refine yC (k _ _ ?_) | refine zg (k _ ?_)); clear k K) | (rename_i A B C D a b c d; (first | refine zx (a ?_) | refine zy (b ?_) | refine zz (fun hc => c ?_) (fun hc => d ?_) | refine zv (b ?_) | refine zw (a ?_)) <;> clear a b c d A B C D <;> try simp only [yL] at hc)) | refine zA ?_ | refine zB ?_ | refine zF ?_)
        exact hPost _
    · have d1 : decide (0 ≤ i) = false := decide_eq_false h1
      repeat' (first | refine zn ?_ | refine zK rfl ?_ | refine zP rfl ?_ | ((first | refine zm ?_ | skip); intro _; intros; simp (disch := first | exact zd | fail) only [↓yS, yT, gresults, gone, ↓reduceIte, Nat.reduceEqDiff, Nat.reduceAdd, Nat.reduceMul, reduceCtorEq, Int.reduceToNat, g31, RS, d1]; first | (rename_i K k; (first | refine yC (k _ _ ?_) | refine zg (k _ ?_)); clear k K) | (rename_i A B C D a b c d; (first | refine zx (a ?_) | refine zy (b ?_) | refine zz (fun hc => c ?_) (fun hc => d ?_) | refine zv (b ?_) | refine zw (a ?_)) <;> clear a b c d A B C D <;> try simp only [yL] at hc)) | refine zA ?_ | refine zB ?_ | refine zF ?_)
      exact hPost _
/-! ### kinds -/
def kndB (k : Int) : List UInt8 := if k = 1 then [68, 73, 65, 76, 79, 71, 85, 69] else if k = 2 then [83, 79, 85, 78, 68] else if k = 3 then [84, 73, 84, 76, 69] else if k = 4 then [77, 85, 83, 73, 67] else []
theorem kndB_nil (k : Int) : kndB k = [] ↔ ¬ (1 ≤ k ∧ k ≤ 4) := by
  unfold kndB
  (repeat' split) <;> simp <;> omega
noncomputable def chk32 (r : Nat) : Bool := match gbody (gcall G 60 3) 60 g32 [.int .u8 (r : Nat)] ⟨.nil, 0, 0⟩ with
  | some (.string s, _) => s.data.toList == kndB r
  | _ => false
set_option maxRecDepth 100000 in
theorem all32 : (List.range 256).all chk32 = true := by kernel_rfl
theorem kind_ok {r : Int} (hr : 0 ≤ r ∧ r ≤ 255) (H : GHeap) : gev G 32 [.int .u8 r] H = some (.string (strB (kndB r)), H) := by
  obtain ⟨n, rfl⟩ : ∃ n : Nat, r = n := ⟨r.toNat, by omega⟩
  have h := List.all_eq_true.1 all32 n (List.mem_range.2 (by omega))
  refine gev_run (m := 60) (d := 3) (g := g32) rfl rfl rfl ?_ H
  unfold chk32 at h
  split at h
  · rename_i s H' e
    rw [e]
    simp only [beq_iff_eq] at h
    simp only [Option.map_some, Option.some.injEq, ← h, strB_of]
  · cases h
/-! ### the order -/
def cmpI (a b : Int) : Int := if a < b then -1 else if b < a then 1 else 0
theorem nan_ok {a : Int} (H : GHeap) : gev G 51 [.int .i64 a] H = some (.bool false, H) := by
  refine gev_GWP (f := 51) rfl rfl rfl (fun Post hPost => ?_) H
  simp only [frameOf, Nat.reduceAdd]
  have d : decide (¬ a = a) = false := by simp
  repeat' (first | refine zn ?_ | refine zK rfl ?_ | refine zP rfl ?_ | ((first | refine zm ?_ | skip); intro _; intros; simp (disch := first | exact zd | fail) only [↓yS, yT, gresults, gone, ↓reduceIte, Nat.reduceEqDiff, Nat.reduceAdd, Nat.reduceMul, reduceCtorEq, Int.reduceToNat, g51, d]; first | (rename_i K k; (first | refine yC (k _ _ ?_) | refine zg (k _ ?_)); clear k K) | (rename_i A B C D a b c d; (first | refine zx (a ?_) | refine zy (b ?_) | refine zz (fun hc => c ?_) (fun hc => d ?_) | refine zv (b ?_) | refine zw (a ?_)) <;> clear a b c d A B C D <;> try simp only [yL] at hc)) | refine zA ?_ | refine zB ?_ | refine zF ?_)
  exact hPost _
theorem cmp_ok {a b : Int} (H : GHeap) : gev G 37 [.int .i64 a, .int .i64 b] H = some (.int .i64 (cmpI a b), H) := by
  refine gev_GWP (f := 37) rfl rfl rfl (fun Post hPost => ?_) H
  simp only [frameOf, Nat.reduceAdd]
  unfold cmpI at hPost
  repeat' (first | refine zn ?_ | refine zK rfl ?_ | refine zP rfl ?_ | ((first | refine zm ?_ | skip); intro _; intros; simp (disch := first | exact zd | fail) only [↓yS, yT, gresults, gone, ↓reduceIte, Nat.reduceEqDiff, Nat.reduceAdd, Nat.reduceMul, reduceCtorEq, Int.reduceToNat, g37]; first | (rename_i K k; (first | refine yC (k _ _ ?_) | refine zg (k _ ?_)); clear k K) | (rename_i A B C D a b c d; (first | refine zx (a ?_) | refine zy (b ?_) | refine zz (fun hc => c ?_) (fun hc => d ?_) | refine zv (b ?_) | refine zw (a ?_)) <;> clear a b c d A B C D <;> try simp only [yL] at hc)) | refine zA ?_ | refine zB ?_ | refine zF ?_)
  refine Gw_s fun K' hK' => G1_call (by simp only [gtarget, ↓GArg.ev, ↓evs, ↓Tr.get_set, Nat.reduceEqDiff, if_true, if_false, ↓reduceIte, Option.map_some]; rfl) (one_of (nan_ok _)) fun r1 H1 hq => hK' _ _ ?_
  obtain ⟨rfl, rfl⟩ := hq
  repeat' (first | refine zn ?_ | refine zK rfl ?_ | refine zP rfl ?_ | ((first | refine zm ?_ | skip); intro _; intros; simp (disch := first | exact zd | fail) only [↓yS, yT, gresults, gone, ↓reduceIte, Nat.reduceEqDiff, Nat.reduceAdd, Nat.reduceMul, reduceCtorEq, Int.reduceToNat, g37]; first | (rename_i K k; (first | refine yC (k _ _ ?_) | refine zg (k _ ?_)); clear k K) | (rename_i A B C D a b c d; (first | refine zx (a ?_) | refine zy (b ?_) | refine zz (fun hc => c ?_) (fun hc => d ?_) | refine zv (b ?_) | refine zw (a ?_)) <;> clear a b c d A B C D <;> try simp only [yL] at hc)) | refine zA ?_ | refine zB ?_ | refine zF ?_)
  refine Gw_s fun K' hK' => G1_call (by simp only [gtarget, ↓GArg.ev, ↓evs, ↓Tr.get_set, Nat.reduceEqDiff, if_true, if_false, ↓reduceIte, Option.map_some]; rfl) (one_of (nan_ok _)) fun r1 H1 hq => hK' _ _ ?_
  obtain ⟨rfl, rfl⟩ := hq
  repeat' (first | refine zn ?_ | refine zK rfl ?_ | refine zP rfl ?_ | ((first | refine zm ?_ | skip); intro _; intros; simp (disch := first | exact zd | fail) only [↓yS, yT, gresults, gone, ↓reduceIte, Nat.reduceEqDiff, Nat.reduceAdd, Nat.reduceMul, reduceCtorEq, Int.reduceToNat, g37]; first | (rename_i K k; (first | refine yC (k _ _ ?_) | refine zg (k _ ?_)); clear k K) | (rename_i A B C D a b c d; (first | refine zx (a ?_) | refine zy (b ?_) | refine zz (fun hc => c ?_) (fun hc => d ?_) | refine zv (b ?_) | refine zw (a ?_)) <;> clear a b c d A B C D <;> try simp only [yL] at hc)) | refine zA ?_ | refine zB ?_ | refine zF ?_)
  case refine_1 => rw [if_pos hc] at hPost; exact hPost _
  case refine_2.refine_1 => rw [if_neg (by omega), if_pos hc] at hPost; exact hPost _
  rw [if_neg (by omega), if_neg (by omega)] at hPost; exact hPost _
theorem or_ok {H : GHeap} {v : Value} {a b : Int} (hv : GRd H 1 v 2 (ints .i64 [a, b])) :
    ∃ r H', gev G 36 [v] H = some (r, H') ∧ (r = .int .i64 (if a = 0 then b else a) ∧ H' = H) := by
  refine gev_GW (f := 36) rfl fun Post hPost => ?_
  have hsl := hv.isSl
  have e0 : H.rd (blk v) (ofs v) = some (.int .i64 a) := hv.rd (c := 0) (by simp [ints])
  have e1 : H.rd (blk v) (ofs v + 1) = some (.int .i64 b) := hv.rd (c := 1) (by simp [ints])
  simp only [frameOf, Nat.reduceAdd]
  repeat' (first | refine zn ?_ | refine zK rfl ?_ | refine zP rfl ?_ | ((first | refine zm ?_ | skip); intro _; intros; simp (disch := first | exact zd | fail) only [↓yS, yT, gresults, gone, ↓reduceIte, Nat.reduceEqDiff, Nat.reduceAdd, Nat.reduceMul, reduceCtorEq, Int.reduceToNat, g36, hsl.len]; first | (rename_i K k; (first | refine yC (k _ _ ?_) | refine zg (k _ ?_)); clear k K) | (rename_i A B C D a b c d; (first | refine zx (a ?_) | refine zy (b ?_) | refine zz (fun hc => c ?_) (fun hc => d ?_) | refine zv (b ?_) | refine zw (a ?_)) <;> clear a b c d A B C D <;> try simp only [yL] at hc)) | refine zA ?_ | refine zB ?_ | refine zF ?_)
  refine GW_loop (fun k fr H1 => ∃ j : Nat, k = 2 - j ∧ j ≤ 2 ∧ fr.get 3 = some (.int .i64 0) ∧ fr.get 6 = some (v) ∧ fr.get 7 = some (.int .i64 2) ∧ fr.get 8 = some (.int .i64 j) ∧ H1 = H ∧ (1 ≤ j → a = 0) ∧ (2 ≤ j → b = 0)) ?_ 2 ?_
  case refine_2 =>
    refine ⟨0, by omega, by omega, ?_⟩
    simp only [↓yG, Nat.reduceEqDiff, ↓reduceIte, Int.natCast_add, Int.cast_ofNat_Int, Int.natCast_zero, true_and, and_true, Option.some.injEq, Value.int.injEq]
    exact ⟨fun h => absurd h (by decide), fun h => absurd h (by decide)⟩
  rintro k fr H1 ⟨j, rfl, hj, f3, f6, f7, f8, rfl, ha, hb⟩ J hJ
  by_cases hj1 : j < 2
  · by_cases hj0 : j = 0
    · subst hj0
      repeat' (first | (exfalso; omega) | refine zn ?_ | refine zK rfl ?_ | refine zP rfl ?_ | ((first | refine zm ?_ | skip); intro _; intros; simp (disch := first | exact zd | fail) only [↓yS, yT, gresults, gone, ↓reduceIte, Nat.reduceEqDiff, Nat.reduceAdd, Nat.reduceMul, reduceCtorEq, Int.reduceToNat, g36, f3, f6, f7, f8, hsl.ia, Nat.zero_mul, Nat.add_zero, e0]; first | (rename_i K k; (first | refine yC (k _ _ ?_) | refine zg (k _ ?_)); clear k K) | (rename_i A B C D a b c d; (first | refine zx (a ?_) | refine zy (b ?_) | refine zz (fun hc => c ?_) (fun hc => d ?_) | refine zv (b ?_) | refine zw (a ?_)) <;> clear a b c d A B C D <;> try simp only [yL] at hc)) | refine zA ?_ | refine zB ?_ | refine zF ?_)
      case pos.refine_1 => exact hPost _ _ ⟨by rw [if_neg hc], rfl⟩
      refine hJ _ _ ⟨1, by omega, 1, rfl, by omega, ?_⟩
      simp only [↓yG, Nat.reduceEqDiff, ↓reduceIte, Int.natCast_add, Int.cast_ofNat_Int, Int.natCast_zero, true_and, and_true, Option.some.injEq, Value.int.injEq, f3, f6, f7]
      exact ⟨rfl, fun _ => hc, fun h => absurd h (by decide)⟩
    · obtain rfl : j = 1 := by omega
      have ha := ha (by omega)
      repeat' (first | (exfalso; omega) | refine zn ?_ | refine zK rfl ?_ | refine zP rfl ?_ | ((first | refine zm ?_ | skip); intro _; intros; simp (disch := first | exact zd | fail) only [↓yS, yT, gresults, gone, ↓reduceIte, Nat.reduceEqDiff, Nat.reduceAdd, Nat.reduceMul, reduceCtorEq, Int.reduceToNat, g36, f3, f6, f7, f8, hsl.ia, Nat.one_mul, e1]; first | (rename_i K k; (first | refine yC (k _ _ ?_) | refine zg (k _ ?_)); clear k K) | (rename_i A B C D a b c d; (first | refine zx (a ?_) | refine zy (b ?_) | refine zz (fun hc => c ?_) (fun hc => d ?_) | refine zv (b ?_) | refine zw (a ?_)) <;> clear a b c d A B C D <;> try simp only [yL] at hc)) | refine zA ?_ | refine zB ?_ | refine zF ?_)
      case neg.refine_1 => exact hPost _ _ ⟨by rw [if_pos ha], rfl⟩
      refine hJ _ _ ⟨0, by omega, 2, rfl, by omega, ?_⟩
      simp only [↓yG, Nat.reduceEqDiff, ↓reduceIte, Int.natCast_add, Int.cast_ofNat_Int, Int.natCast_zero, true_and, and_true, Option.some.injEq, Value.int.injEq, f3, f6, f7]
      exact ⟨rfl, fun _ => ha, fun _ => hc⟩
  · obtain rfl : j = 2 := by omega
    repeat' (first | (exfalso; omega) | refine zn ?_ | refine zK rfl ?_ | refine zP rfl ?_ | ((first | refine zm ?_ | skip); intro _; intros; simp (disch := first | exact zd | fail) only [↓yS, yT, gresults, gone, ↓reduceIte, Nat.reduceEqDiff, Nat.reduceAdd, Nat.reduceMul, reduceCtorEq, Int.reduceToNat, g36, f3, f6, f7, f8]; first | (rename_i K k; (first | refine yC (k _ _ ?_) | refine zg (k _ ?_)); clear k K) | (rename_i A B C D a b c d; (first | refine zx (a ?_) | refine zy (b ?_) | refine zz (fun hc => c ?_) (fun hc => d ?_) | refine zv (b ?_) | refine zw (a ?_)) <;> clear a b c d A B C D <;> try simp only [yL] at hc)) | refine zA ?_ | refine zB ?_ | refine zF ?_)
    exact hPost _ _ ⟨by rw [if_pos (ha (by omega)), hb (by omega)], rfl⟩
/-! ### events -/
theorem evC_0 (e : Ev) : (evC e)[0]? = some (.int .i64 e.id) := rfl
theorem evC_1 (e : Ev) : (evC e)[1]? = some (.int .i64 e.i) := rfl
theorem evC_2 (e : Ev) : (evC e)[2]? = some (.int .i64 e.o) := rfl
theorem evC_3 (e : Ev) : (evC e)[3]? = some (.string (strB e.rg)) := rfl
theorem evC_4 (e : Ev) : (evC e)[4]? = some (.int .u8 e.kd) := rfl
theorem evC_5 (e : Ev) : (evC e)[5]? = some (.string (strB e.sp)) := rfl
theorem evC_6 (e : Ev) : (evC e)[6]? = some e.v := rfl
theorem ev_cells (e : Ev) : (evV e).cells.toList = evC e := rfl
theorem evC_flat {e : Ev} (h : flatV e.v = true) : (evC e).all flatV = true := by simp [evC, flatV_int, flatV_str, h]
theorem ev_cflat {e : Ev} (h : flatV e.v = true) : (evV e).cells.all flatV = true := by rw [← Array.all_toList]; exact evC_flat h
theorem gsetn_ev {cs : List Value} {e : Ev} (h : cs.length = 7) (hf : flatV e.v = true) : gsetn cs 0 7 (evV e) = some (evC e) := gsetn_all h rfl (by simp [flatV_int, flatV_str, hf])
theorem rdn_ev {H : GHeap} {j : Nat} {e : Ev} {u : Nat} {b : Bool} (h : H.len = j) : (H.add (some (.cells (evC e) u b))).rdn j 0 7 = some (evV e) := rdn_add_all h rfl
theorem rdn_evp {H : GHeap} {j : Nat} {e : Ev} {u : Nat} {b : Bool} : (H.put j (.cells (evC e) u b)).rdn j 0 7 = some (evV e) := rdn_put_all rfl
theorem rdn_ev2 {H : GHeap} {j : Nat} {e : Ev} {u : Nat} {b : Bool} (h : H.len = j) : (H.add (some (.cells (evC e) u b))).rdn j 1 2 = some (s2 e.i e.o) := by
  simp only [GHeap.rdn, cs_add_eq h]; rfl
theorem RE : type_of% (And.intro (And.intro (And.intro @evC_0 (And.intro @evC_1 @evC_2)) (And.intro @evC_3 (And.intro @evC_4 @evC_5))) (And.intro (And.intro @evC_6 (And.intro @ev_cells @rdn_ev)) (And.intro @rdn_evp @rdn_ev2))) := ⟨⟨⟨@evC_0, ⟨@evC_1, @evC_2⟩⟩, ⟨@evC_3, ⟨@evC_4, @evC_5⟩⟩⟩, ⟨⟨@evC_6, ⟨@ev_cells, @rdn_ev⟩⟩, ⟨@rdn_evp, @rdn_ev2⟩⟩⟩
theorem cmp_less {a b : Ev} : (if cmpI a.i b.i = 0 then cmpI a.id b.id else cmpI a.i b.i) < 0 ↔ lessE a b := by
  unfold cmpI lessE
  (repeat' split) <;> omega
instance (a b : Ev) : Decidable (lessE a b) := by unfold lessE; exact inferInstance
theorem less_ok {H : GHeap} (hw : H.wf) {a b : Ev} (ha : flatV a.v = true) (hb : flatV b.v = true) :
    ∃ r H', gev G 18 [evV a, evV b] H = some (r, H') ∧ (r = .bool (decide (lessE a b)) ∧ Same H H') := by
  refine gev_GW (f := 18) rfl fun Post hPost => ?_
  have hlim := hw.1
  have fa := ev_cflat ha
  have fb := ev_cflat hb
  simp only [frameOf, Nat.reduceAdd]
  repeat' (first | refine zn ?_ | refine zK rfl ?_ | refine zP rfl ?_ | ((first | refine zm ?_ | skip); intro _; intros; simp (disch := first | exact zd | fail) only [↓yS, yT, gresults, gone, ↓reduceIte, Nat.reduceEqDiff, Nat.reduceAdd, Nat.reduceMul, reduceCtorEq, Int.reduceToNat, g18, RE, fa, fb]; first | (rename_i K k; (first | refine yC (k _ _ ?_) | refine zg (k _ ?_)); clear k K) | (rename_i A B C D a b c d; (first | refine zx (a ?_) | refine zy (b ?_) | refine zz (fun hc => c ?_) (fun hc => d ?_) | refine zv (b ?_) | refine zw (a ?_)) <;> clear a b c d A B C D <;> try simp only [yL] at hc)) | refine zA ?_ | refine zB ?_ | refine zF ?_)
  have hS : Same H ((H.add (some (.cells (evC a) 0 true))).add (some (.cells (evC b) 0 true))) := ((Same.refl hw).add _).add _
  refine Gw_s fun K' hK' => G1_callM (by simp only [gtarget, ↓GArg.ev, ↓evs, ↓Tr.get_set, Nat.reduceEqDiff, if_true, if_false, ↓reduceIte, Option.map_some]; rfl) (one_of (cmp_ok _)) fun r1 H1 hq => hK' _ _ ?_
  obtain ⟨rfl, rfl⟩ := hq
  rw [updown]
  repeat' (first | refine zn ?_ | refine zK rfl ?_ | refine zP rfl ?_ | ((first | refine zm ?_ | skip); intro _; intros; simp (disch := first | exact zd | fail) only [↓yS, yT, gresults, gone, ↓reduceIte, Nat.reduceEqDiff, Nat.reduceAdd, Nat.reduceMul, reduceCtorEq, Int.reduceToNat, g18, RE]; first | (rename_i K k; (first | refine yC (k _ _ ?_) | refine zg (k _ ?_)); clear k K) | (rename_i A B C D a b c d; (first | refine zx (a ?_) | refine zy (b ?_) | refine zz (fun hc => c ?_) (fun hc => d ?_) | refine zv (b ?_) | refine zw (a ?_)) <;> clear a b c d A B C D <;> try simp only [yL] at hc)) | refine zA ?_ | refine zB ?_ | refine zF ?_)
  refine Gw_s fun K' hK' => G1_callM (by simp only [gtarget, ↓GArg.ev, ↓evs, ↓Tr.get_set, Nat.reduceEqDiff, if_true, if_false, ↓reduceIte, Option.map_some]; rfl) (one_of (cmp_ok _)) fun r1 H1 hq => hK' _ _ ?_
  obtain ⟨rfl, rfl⟩ := hq
  rw [updown]
  repeat' (first | refine zn ?_ | refine zK rfl ?_ | refine zP rfl ?_ | ((first | refine zm ?_ | skip); intro _; intros; simp (disch := first | exact zd | fail) only [↓yS, yT, gresults, gone, ↓reduceIte, Nat.reduceEqDiff, Nat.reduceAdd, Nat.reduceMul, reduceCtorEq, Int.reduceToNat, g18, RE]; first | (rename_i K k; (first | refine yC (k _ _ ?_) | refine zg (k _ ?_)); clear k K) | (rename_i A B C D a b c d; (first | refine zx (a ?_) | refine zy (b ?_) | refine zz (fun hc => c ?_) (fun hc => d ?_) | refine zv (b ?_) | refine zw (a ?_)) <;> clear a b c d A B C D <;> try simp only [yL] at hc)) | refine zA ?_ | refine zB ?_ | refine zF ?_)
  have hO := OS.made' (s := 1) (u := 1) (n := 2) (cs := ints .i64 [cmpI a.i b.i, cmpI a.id b.id]) hS rfl
  have hrd := hO.rd
  have hup : GRd (((H.add (some (.cells (evC a) 0 true))).add (some (.cells (evC b) 0 true))).add (some (.cells (ints .i64 [cmpI a.i b.i, cmpI a.id b.id]) 1 true))).up 1 (.slice (some ⟨((H.add (some (.cells (evC a) 0 true))).add (some (.cells (evC b) 0 true))).len, 0, none⟩) 2 3) 2 (ints .i64 [cmpI a.i b.i, cmpI a.id b.id]) := hrd
  refine Gw_s fun K' hK' => G1_callM (by simp only [gtarget, ↓GArg.ev, ↓evs, ↓Tr.get_set, Nat.reduceEqDiff, if_true, if_false, ↓reduceIte, Option.map_some]; rfl) (or_ok hup) fun r3 H3 hq => hK' _ _ ?_
  obtain ⟨rfl, rfl⟩ := hq
  erw [updown]
  have hlt := cmp_less (a := a) (b := b)
  repeat' (first | refine zn ?_ | refine zK rfl ?_ | refine zP rfl ?_ | ((first | refine zm ?_ | skip); intro _; intros; simp (disch := first | exact zd | fail) only [↓yS, yT, gresults, gone, ↓reduceIte, Nat.reduceEqDiff, Nat.reduceAdd, Nat.reduceMul, reduceCtorEq, Int.reduceToNat, g18, RE]; first | (rename_i K k; (first | refine yC (k _ _ ?_) | refine zg (k _ ?_)); clear k K) | (rename_i A B C D a b c d; (first | refine zx (a ?_) | refine zy (b ?_) | refine zz (fun hc => c ?_) (fun hc => d ?_) | refine zv (b ?_) | refine zw (a ?_)) <;> clear a b c d A B C D <;> try simp only [yL] at hc)) | refine zA ?_ | refine zB ?_ | refine zF ?_)
  refine hPost _ _ ⟨?_, hO.same⟩
  exact congrArg Value.bool (decide_eq_decide.2 hlt)
end Go.Gh
