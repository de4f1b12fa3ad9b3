/-
  lines and region, walked: names, regions.
-/
import Derived.Test.YtjjcgaompnjbdaaDoorTrW1
namespace Go.Gh
set_option linter.unusedSimpArgs false
set_option linter.unusedVariables false
set_option maxHeartbeats 4000000
open Go.RowKit
set_option maxRecDepth 4000

theorem strB_at {l : List UInt8} {k : IntKind} {j : Nat} (h : j < l.length) : gix none (.string (strB l)) (.int k j) = some (.int .u8 (l[j]!.toNat : Nat)) := by
  have hs := strB_size l
  simp only [gix, Int.toNat_natCast]
  rw [if_pos (by omega)]
  have h4 : (strB l)[j]? = some l[j]! := by
    rw [getElem?_pos (strB l) j (by omega), getElem!_pos l j h]
    simp [strB, ByteArray.getElem_eq_getElem_data]
  rw [h4]; rfl
theorem strB_at0 {l : List UInt8} {k : IntKind} (h : 0 < l.length) : gix none (.string (strB l)) (.int k 0) = some (.int .u8 (l[0]!.toNat : Nat)) := strB_at (j := 0) h
theorem name_ok {l : List UInt8} (hl : l.length ≤ 1048576) (H : GHeap) : gev G 27 [.string (strB l)] H = some (.bool (nameF l), H) := by
  refine gev_GWP (f := 27) rfl rfl rfl (fun Post hPost => ?_) H
  have hls := strB_size l
  have hw := root_wf
  simp only [frameOf, Nat.reduceAdd]
  have hno : ∀ {H'}, nameF l = false → Post (.bool false) H' := fun h => h ▸ hPost _
  by_cases hlen : 1 ≤ l.length ∧ l.length ≤ 16
  case neg =>
    have : nameF l = false := by unfold nameF; rw [decide_eq_false hlen, Bool.false_and, Bool.false_and]
    repeat' (first | refine zn ?_ | refine zK rfl ?_ | refine zP rfl ?_ | ((first | refine zm ?_ | skip); intro _; intros; simp (disch := first | exact zd | fail) only [↓yS, yT, gresults, gone, ↓reduceIte, Nat.reduceEqDiff, Nat.reduceAdd, Nat.reduceMul, reduceCtorEq, Int.reduceToNat, g27, hls]; first | (rename_i K k; (first | refine yC (k _ _ ?_) | refine zg (k _ ?_)); clear k K) | (rename_i A B C D a b c d; (first | refine zx (a ?_) | refine zy (b ?_) | refine zz (fun hc => c ?_) (fun hc => d ?_) | refine zv (b ?_) | refine zw (a ?_)) <;> clear a b c d A B C D <;> try simp only [yL] at hc)) | refine zA ?_ | refine zB ?_ | refine zF ?_)
    all_goals first | exact hno this | (exfalso; omega)
  have e0 := fun k => strB_at0 (k := k) (l := l) (by omega)
  by_cases hcap : capB l[0]! = true
  case neg =>
    have : nameF l = false := by unfold nameF; rw [Bool.eq_false_iff.2 hcap, Bool.and_false, Bool.false_and]
    have hcap' : ¬ (65 ≤ l[0]!.toNat ∧ l[0]!.toNat ≤ 90) := by simpa [capB] using hcap
    repeat' (first | refine zn ?_ | refine zK rfl ?_ | refine zP rfl ?_ | ((first | refine zm ?_ | skip); intro _; intros; simp (disch := first | exact zd | fail) only [↓yS, yT, gresults, gone, ↓reduceIte, Nat.reduceEqDiff, Nat.reduceAdd, Nat.reduceMul, reduceCtorEq, Int.reduceToNat, g27, hls, e0]; first | (rename_i K k; (first | refine yC (k _ _ ?_) | refine zg (k _ ?_)); clear k K) | (rename_i A B C D a b c d; (first | refine zx (a ?_) | refine zy (b ?_) | refine zz (fun hc => c ?_) (fun hc => d ?_) | refine zv (b ?_) | refine zw (a ?_)) <;> clear a b c d A B C D <;> try simp only [yL] at hc)) | refine zA ?_ | refine zB ?_ | refine zF ?_)
    all_goals first | exact hno this | (exfalso; omega)
  have hcap' : 65 ≤ l[0]!.toNat ∧ l[0]!.toNat ≤ 90 := by simpa [capB] using hcap
  have hF : nameF l = l.all namB := by unfold nameF; rw [decide_eq_true hlen, hcap, Bool.true_and, Bool.true_and]
  rw [hF] at hPost hno
  have d1 : decide ((l.length : Int) < 1) = false := decide_eq_false (by omega)
  have d2 : decide ((16 : Int) < l.length) = false := decide_eq_false (by omega)
  have d3 : decide ((l[0]!.toNat : Int) < 65) = false := decide_eq_false (by omega)
  have d4 : decide ((90 : Int) < l[0]!.toNat) = false := decide_eq_false (by omega)
  repeat' (first | refine zn ?_ | refine zK rfl ?_ | refine zP rfl ?_ | ((first | refine zm ?_ | skip); intro _; intros; simp (disch := first | exact zd | fail) only [↓yS, yT, gresults, gone, ↓reduceIte, Nat.reduceEqDiff, Nat.reduceAdd, Nat.reduceMul, reduceCtorEq, Int.reduceToNat, g27, hls, e0, d1, d2, d3, d4]; first | (rename_i K k; (first | refine yC (k _ _ ?_) | refine zg (k _ ?_)); clear k K) | (rename_i A B C D a b c d; (first | refine zx (a ?_) | refine zy (b ?_) | refine zz (fun hc => c ?_) (fun hc => d ?_) | refine zv (b ?_) | refine zw (a ?_)) <;> clear a b c d A B C D <;> try simp only [yL] at hc)) | refine zA ?_ | refine zB ?_ | refine zF ?_)
  clear hF d1 d2 d3 d4 e0 hcap hcap'
  refine GW_loop (fun k fr H1 => ∃ j : Nat, k = l.length - j ∧ j ≤ l.length ∧ fr.get 0 = some (.string (strB l)) ∧ fr.get 24 = some (.int .i64 l.length) ∧ fr.get 25 = some (.int .i64 j) ∧ (l.take j).all namB = true) ?_ l.length ?_
  case refine_2 =>
    refine ⟨0, by omega, by omega, ?_⟩
    simp only [↓yG, Nat.reduceEqDiff, ↓reduceIte, Int.natCast_add, Int.cast_ofNat_Int, Int.natCast_zero, true_and, and_true, Option.some.injEq, Value.int.injEq]
    simp
  rintro k fr H1 ⟨j, rfl, hj, f0, f24, f25, hall⟩ J hJ
  by_cases hj1 : j < l.length
  · have e1 := fun k => strB_at (k := k) hj1
    have hmem : l[j]! ∈ l := by rw [getElem!_pos l j hj1]; exact List.getElem_mem _
    have hnx : namB l[j]! = true → (l.take (j + 1)).all namB = true := fun h => by
      rw [List.take_succ_eq_append_getElem hj1, List.all_append, hall, ← getElem!_pos l j hj1]; simp only [List.all_cons, List.all_nil, h, Bool.and_true]
    have hbd : namB l[j]! = false → l.all namB = false := fun h => by
      rw [← Bool.not_eq_true]
      intro hh
      have := List.all_eq_true.1 hh _ hmem
      rw [h] at this; cases this
    have hN : namB l[j]! = decide ((65 ≤ l[j]!.toNat ∧ l[j]!.toNat ≤ 90) ∨ (48 ≤ l[j]!.toNat ∧ l[j]!.toNat ≤ 57) ∨ l[j]!.toNat = 95 ∨ l[j]!.toNat = 45) := rfl
    rw [hN, decide_eq_true_eq] at hnx
    rw [hN, decide_eq_false_iff_not] at hbd
    clear hN hmem
    generalize l[j]! = b at *
    have hb := b.toNat_lt
    repeat' (first | (exfalso; omega) | refine zn ?_ | refine zK rfl ?_ | refine zP rfl ?_ | ((first | refine zm ?_ | skip); intro _; intros; simp (disch := first | exact zd | fail) only [↓yS, yT, gresults, gone, ↓reduceIte, Nat.reduceEqDiff, Nat.reduceAdd, Nat.reduceMul, reduceCtorEq, Int.reduceToNat, g27, f0, f24, f25, e1]; first | (rename_i K k; (first | refine yC (k _ _ ?_) | refine zg (k _ ?_)); clear k K) | (rename_i A B C D a b c d; (first | refine zx (a ?_) | refine zy (b ?_) | refine zz (fun hc => c ?_) (fun hc => d ?_) | refine zv (b ?_) | refine zw (a ?_)) <;> clear a b c d A B C D <;> try simp only [yL] at hc)) | refine zA ?_ | refine zB ?_ | refine zF ?_)
    all_goals first
      | exact hno (hbd (by omega))
      | (refine hJ _ _ ⟨l.length - (j + 1), by omega, j + 1, rfl, by omega, ?_⟩
         simp only [↓yG, Nat.reduceEqDiff, ↓reduceIte, Int.natCast_add, Int.cast_ofNat_Int, Int.natCast_zero, true_and, and_true, Option.some.injEq, Value.int.injEq, f0, f24]
         exact hnx (by omega))
  · obtain rfl : j = l.length := by omega
    rw [List.take_length] at hall
    rw [hall] at hPost
    repeat' (first | (exfalso; omega) | refine zn ?_ | refine zK rfl ?_ | refine zP rfl ?_ | ((first | refine zm ?_ | skip); intro _; intros; simp (disch := first | exact zd | fail) only [↓yS, yT, gresults, gone, ↓reduceIte, Nat.reduceEqDiff, Nat.reduceAdd, Nat.reduceMul, reduceCtorEq, Int.reduceToNat, g27, f0, f24, f25]; first | (rename_i K k; (first | refine yC (k _ _ ?_) | refine zg (k _ ?_)); clear k K) | (rename_i A B C D a b c d; (first | refine zx (a ?_) | refine zy (b ?_) | refine zz (fun hc => c ?_) (fun hc => d ?_) | refine zv (b ?_) | refine zw (a ?_)) <;> clear a b c d A B C D <;> try simp only [yL] at hc)) | refine zA ?_ | refine zB ?_ | refine zF ?_)
    exact hPost _
theorem from_ok {n a b : Int} (H : GHeap) : gev G 43 [.int .i64 n, .int .i64 a, .int .i64 b] H = some (.bool (decide (a ≤ n ∧ n ≤ b)), H) := by
  refine gev_GWP (f := 43) rfl rfl rfl (fun Post hPost => ?_) H
  simp only [frameOf, Nat.reduceAdd]
  repeat' (first | refine zn ?_ | refine zK rfl ?_ | refine zP rfl ?_ | ((first | refine zm ?_ | skip); intro _; intros; simp (disch := first | exact zd | fail) only [↓yS, yT, gresults, gone, ↓reduceIte, Nat.reduceEqDiff, Nat.reduceAdd, Nat.reduceMul, reduceCtorEq, Int.reduceToNat, g43]; first | (rename_i K k; (first | refine yC (k _ _ ?_) | refine zg (k _ ?_)); clear k K) | (rename_i A B C D a b c d; (first | refine zx (a ?_) | refine zy (b ?_) | refine zz (fun hc => c ?_) (fun hc => d ?_) | refine zv (b ?_) | refine zw (a ?_)) <;> clear a b c d A B C D <;> try simp only [yL] at hc)) | refine zA ?_ | refine zB ?_ | refine zF ?_)
  case refine_1 =>
    have : decide (a ≤ n ∧ n ≤ b) = decide (n ≤ b) := by simp [hc]
    rw [this] at hPost
    exact hPost _
  have : decide (a ≤ n ∧ n ≤ b) = false := decide_eq_false (by omega)
  rw [this] at hPost
  exact hPost _
/-! ### regions -/
theorem rgV_lit (r : Rg) : litOk (rgV r) = true := by simp [rgV, litOk, litFlat]
theorem rg_cells (r : Rg) : (rgV r).cells.toList = rgC r := rfl
theorem rgC_flat (r : Rg) : (rgC r).all flatV = true := by simp [rgC, flatV]
theorem rg_cflat (r : Rg) : (rgV r).cells.all flatV = true := by rw [← Array.all_toList]; exact rgC_flat r
theorem rgC_0 (r : Rg) : (rgC r)[0]? = some (.string (strB r.nm)) := rfl
theorem rgC_1 (r : Rg) : (rgC r)[1]? = some (.int .i64 r.t) := rfl
theorem rgC_2 (r : Rg) : (rgC r)[2]? = some (.int .i64 r.h) := rfl
theorem rgC_3 (r : Rg) : (rgC r)[3]? = some (.int .i64 r.l) := rfl
theorem rgC_4 (r : Rg) : (rgC r)[4]? = some (.int .i64 r.w) := rfl
theorem rgC_5 (r : Rg) : (rgC r)[5]? = some (.int .u8 r.al) := rfl
theorem rgC_6 (r : Rg) : (rgC r)[6]? = some (.bool r.bt) := rfl
theorem gsetn_rg {cs : List Value} {r : Rg} (h : cs.length = 7) : gsetn cs 0 7 (rgV r) = some (rgC r) := gsetn_all h rfl (by simp [flatV])
theorem rdn_rg {H : GHeap} {j : Nat} {r : Rg} {u : Nat} {b : Bool} (h : H.len = j) : (H.add (some (.cells (rgC r) u b))).rdn j 0 7 = some (rgV r) := rdn_add_all h rfl
theorem rdn_rgp {H : GHeap} {j : Nat} {r : Rg} {u : Nat} {b : Bool} : (H.put j (.cells (rgC r) u b)).rdn j 0 7 = some (rgV r) := rdn_put_all rfl
theorem geq_rg (n : Nat) (a b : Rg) : geqIn (n + 1) (.parts [(0, none, .str), (1, none, .int), (2, none, .int), (3, none, .int), (4, none, .int), (5, none, .int), (6, none, .bool)]) (rgV a) (rgV b) = some (decide (a = b)) := by
  have h0 : ∀ x y : Rg, geqIn (n + 1) (.parts [(0, none, .str), (1, none, .int), (2, none, .int), (3, none, .int), (4, none, .int), (5, none, .int), (6, none, .bool)]) (rgV x) (rgV y) = match geqIn n .str (.string (strB x.nm)) (.string (strB y.nm)) with
    | some true => (match geqIn n .int (.int .i64 x.t) (.int .i64 y.t) with
      | some true => (match geqIn n .int (.int .i64 x.h) (.int .i64 y.h) with
        | some true => (match geqIn n .int (.int .i64 x.l) (.int .i64 y.l) with
          | some true => (match geqIn n .int (.int .i64 x.w) (.int .i64 y.w) with
            | some true => (match geqIn n .int (.int .u8 x.al) (.int .u8 y.al) with
              | some true => (match geqIn n .bool (.bool x.bt) (.bool y.bt) with
                | some true => some true
                | z => z)
              | z => z)
            | z => z)
          | z => z)
        | z => z)
      | z => z)
    | z => z := fun x y => rfl
  rw [h0]
  obtain ⟨a1, a2, a3, a4, a5, a6, a7⟩ := a
  obtain ⟨b1, b2, b3, b4, b5, b6, b7⟩ := b
  simp only [geq_str, geq_int, geq_bool, strB_beq, Rg.mk.injEq]
  by_cases h1 : a1 = b1 <;> by_cases h2 : a2 = b2 <;> by_cases h3 : a3 = b3 <;> by_cases h4 : a4 = b4 <;> by_cases h5 : a5 = b5 <;> by_cases h6 : a6 = b6 <;> by_cases h7 : a7 = b7 <;> simp [h1, h2, h3, h4, h5, h6, h7]
theorem gb_eqG {a b : Rg} : gbin .eql (some (.parts [(0, none, .str), (1, none, .int), (2, none, .int), (3, none, .int), (4, none, .int), (5, none, .int), (6, none, .bool)])) (rgV a) (rgV b) = some (.bool (decide (a = b))) := by
  have := geq_rg 11 a b
  simp only [gbin, rgV, geq] at this ⊢
  rw [this]; rfl
theorem RG : type_of% (And.intro (And.intro (And.intro @rg_cells @rg_cflat) (And.intro @rgC_0 (And.intro @rgC_1 @rgC_2))) (And.intro (And.intro @rgC_3 (And.intro @rgC_4 @rgC_5)) (And.intro (And.intro @rgC_6 @gsetn_rg) (And.intro @rdn_rg (And.intro @rdn_rgp @gb_eqG))))) := ⟨⟨⟨@rg_cells, @rg_cflat⟩, ⟨@rgC_0, ⟨@rgC_1, @rgC_2⟩⟩⟩, ⟨⟨@rgC_3, ⟨@rgC_4, @rgC_5⟩⟩, ⟨⟨@rgC_6, @gsetn_rg⟩, ⟨@rdn_rg, ⟨@rdn_rgp, @gb_eqG⟩⟩⟩⟩⟩
theorem dfl_run : (gbody (gcall G 20 2) 20 g44 [] ⟨.nil, 0, 0⟩).map (·.1) = some (rgV dfl) := by kernel_rfl
theorem default_ok (H : GHeap) : gev G 44 [] H = some (rgV dfl, H) := gev_run (m := 20) (d := 2) (g := g44) (v := rgV dfl) rfl rfl (rgV_lit dfl) dfl_run H
noncomputable def rgOkB (r : Rg) : Bool := @decide (rgOk r) (Classical.propDecidable _)
theorem rgOkB_yes {r : Rg} (h : rgOk r) : rgOkB r = true := @decide_eq_true _ (Classical.propDecidable _) h
theorem rgOkB_no {r : Rg} (h : ¬ rgOk r) : rgOkB r = false := @decide_eq_false _ (Classical.propDecidable _) h
/-- the first error of a region -/
def rgE (r : Rg) : Int := if nameF r.nm = false then 5 else if (0 ≤ r.t ∧ r.t ≤ 14) ∧ (1 ≤ r.h ∧ r.h ≤ 15 - r.t) ∧ (0 ≤ r.l ∧ r.l ≤ 31) ∧ (1 ≤ r.w ∧ r.w ≤ 32 - r.l) then (if 1 ≤ r.al ∧ r.al ≤ 3 then 0 else 3) else 2
theorem rgE_ok (r : Rg) : rgE r = 0 ↔ rgOk r := by
  unfold rgE rgOk
  cases nameF r.nm with
  | false => simp
  | true =>
    simp only [Bool.true_eq_false, if_false, true_and]
    split
    · split
      · rename_i h1 h2; exact ⟨fun _ => ⟨h1.1, h1.2.1, h1.2.2.1, h1.2.2.2, h2⟩, fun _ => rfl⟩
      · rename_i h1 h2; exact ⟨fun h => (by omega), fun h => absurd h.2.2.2.2 h2⟩
    · rename_i h1; exact ⟨fun h => (by omega), fun h => absurd ⟨h.1, h.2.1, h.2.2.1, h.2.2.2.1⟩ h1⟩
theorem rgCheck_ok {r : Rg} (hr : smG r) (H : GHeap) : gev G 29 [rgV r] H = some (.int .i64 (rgE r), H) := by
  refine gev_GWP (f := 29) rfl (by simp only [List.all_cons, List.all_nil, rgV_lit, Bool.and_true]) rfl (fun Post hPost => ?_) H
  have hw := root_wf
  have hlim := hw.1
  simp only [frameOf, Nat.reduceAdd]
  unfold rgE at hPost
  repeat' (first | refine zn ?_ | refine zK rfl ?_ | refine zP rfl ?_ | ((first | refine zm ?_ | skip); intro _; intros; simp (disch := first | exact zd | fail) only [↓yS, yT, gresults, gone, ↓reduceIte, Nat.reduceEqDiff, Nat.reduceAdd, Nat.reduceMul, reduceCtorEq, Int.reduceToNat, g29, RG]; first | (rename_i K k; (first | refine yC (k _ _ ?_) | refine zg (k _ ?_)); clear k K) | (rename_i A B C D a b c d; (first | refine zx (a ?_) | refine zy (b ?_) | refine zz (fun hc => c ?_) (fun hc => d ?_) | refine zv (b ?_) | refine zw (a ?_)) <;> clear a b c d A B C D <;> try simp only [yL] at hc)) | refine zA ?_ | refine zB ?_ | refine zF ?_)
  refine Gw_s fun K' hK' => G1_call (by simp only [gtarget, ↓GArg.ev, ↓evs, ↓Tr.get_set, Nat.reduceEqDiff, if_true, if_false, ↓reduceIte, Option.map_some]; rfl) (one_of (name_ok hr.1 _)) fun r1 H1 hq => hK' _ _ ?_
  obtain ⟨rfl, rfl⟩ := hq
  cases hn : nameF r.nm with
  | false =>
    rw [hn] at hPost
    repeat' (first | refine zn ?_ | refine zK rfl ?_ | refine zP rfl ?_ | ((first | refine zm ?_ | skip); intro _; intros; simp (disch := first | exact zd | fail) only [↓yS, yT, gresults, gone, ↓reduceIte, Nat.reduceEqDiff, Nat.reduceAdd, Nat.reduceMul, reduceCtorEq, Int.reduceToNat, g29, RG]; first | (rename_i K k; (first | refine yC (k _ _ ?_) | refine zg (k _ ?_)); clear k K) | (rename_i A B C D a b c d; (first | refine zx (a ?_) | refine zy (b ?_) | refine zz (fun hc => c ?_) (fun hc => d ?_) | refine zv (b ?_) | refine zw (a ?_)) <;> clear a b c d A B C D <;> try simp only [yL] at hc)) | refine zA ?_ | refine zB ?_ | refine zF ?_)
    exact hPost _
  | true =>
  rw [hn] at hPost
  simp only [Bool.true_eq_false, if_false] at hPost
  have hbad : ∀ {H'}, ¬ ((0 ≤ r.t ∧ r.t ≤ 14) ∧ (1 ≤ r.h ∧ r.h ≤ 15 - r.t) ∧ (0 ≤ r.l ∧ r.l ≤ 31) ∧ (1 ≤ r.w ∧ r.w ≤ 32 - r.l)) → Post (.int .i64 2) H' := fun h => by
    rw [if_neg h] at hPost; exact hPost _
  repeat' (first | refine zn ?_ | refine zK rfl ?_ | refine zP rfl ?_ | ((first | refine zm ?_ | skip); intro _; intros; simp (disch := first | exact zd | fail) only [↓yS, yT, gresults, gone, ↓reduceIte, Nat.reduceEqDiff, Nat.reduceAdd, Nat.reduceMul, reduceCtorEq, Int.reduceToNat, g29, RG]; first | (rename_i K k; (first | refine yC (k _ _ ?_) | refine zg (k _ ?_)); clear k K) | (rename_i A B C D a b c d; (first | refine zx (a ?_) | refine zy (b ?_) | refine zz (fun hc => c ?_) (fun hc => d ?_) | refine zv (b ?_) | refine zw (a ?_)) <;> clear a b c d A B C D <;> try simp only [yL] at hc)) | refine zA ?_ | refine zB ?_ | refine zF ?_)
  refine Gw_s fun K' hK' => G1_call (by simp only [gtarget, ↓GArg.ev, ↓evs, ↓Tr.get_set, Nat.reduceEqDiff, if_true, if_false, ↓reduceIte, Option.map_some, RG]; rfl) (one_of (from_ok _)) fun r1 H1 hq => hK' _ _ ?_
  obtain ⟨rfl, rfl⟩ := hq
  by_cases h1 : 0 ≤ r.t ∧ r.t ≤ 14
  case neg =>
    have d1 : decide (0 ≤ r.t ∧ r.t ≤ 14) = false := decide_eq_false h1
    repeat' (first | refine zn ?_ | refine zK rfl ?_ | refine zP rfl ?_ | ((first | refine zm ?_ | skip); intro _; intros; simp (disch := first | exact zd | fail) only [↓yS, yT, gresults, gone, ↓reduceIte, Nat.reduceEqDiff, Nat.reduceAdd, Nat.reduceMul, reduceCtorEq, Int.reduceToNat, g29, RG, d1, Bool.not_false]; first | (rename_i K k; (first | refine yC (k _ _ ?_) | refine zg (k _ ?_)); clear k K) | (rename_i A B C D a b c d; (first | refine zx (a ?_) | refine zy (b ?_) | refine zz (fun hc => c ?_) (fun hc => d ?_) | refine zv (b ?_) | refine zw (a ?_)) <;> clear a b c d A B C D <;> try simp only [yL] at hc)) | refine zA ?_ | refine zB ?_ | refine zF ?_)
    exact hbad fun h => h1 h.1
  have d1 : decide (0 ≤ r.t ∧ r.t ≤ 14) = true := decide_eq_true h1
  repeat' (first | refine zn ?_ | refine zK rfl ?_ | refine zP rfl ?_ | ((first | refine zm ?_ | skip); intro _; intros; simp (disch := first | exact zd | fail) only [↓yS, yT, gresults, gone, ↓reduceIte, Nat.reduceEqDiff, Nat.reduceAdd, Nat.reduceMul, reduceCtorEq, Int.reduceToNat, g29, RG, d1, Bool.not_true]; first | (rename_i K k; (first | refine yC (k _ _ ?_) | refine zg (k _ ?_)); clear k K) | (rename_i A B C D a b c d; (first | refine zx (a ?_) | refine zy (b ?_) | refine zz (fun hc => c ?_) (fun hc => d ?_) | refine zv (b ?_) | refine zw (a ?_)) <;> clear a b c d A B C D <;> try simp only [yL] at hc)) | refine zA ?_ | refine zB ?_ | refine zF ?_)
  intro K' hK'; refine G1_call (by simp only [gtarget, ↓GArg.ev, ↓evs, ↓Tr.get_set, Nat.reduceEqDiff, if_true, if_false, ↓reduceIte, Option.map_some, RG]; rfl) (one_of (from_ok _)) fun r1 H1 hq => hK' _ _ ?_
  obtain ⟨rfl, rfl⟩ := hq
  by_cases h2 : 1 ≤ r.h ∧ r.h ≤ 15 - r.t
  case neg =>
    have d2 : decide (1 ≤ r.h ∧ r.h ≤ 15 - r.t) = false := decide_eq_false h2
    repeat' (first | refine zn ?_ | refine zK rfl ?_ | refine zP rfl ?_ | ((first | refine zm ?_ | skip); intro _; intros; simp (disch := first | exact zd | fail) only [↓yS, yT, gresults, gone, ↓reduceIte, Nat.reduceEqDiff, Nat.reduceAdd, Nat.reduceMul, reduceCtorEq, Int.reduceToNat, g29, RG, d2, Bool.not_false]; first | (rename_i K k; (first | refine yC (k _ _ ?_) | refine zg (k _ ?_)); clear k K) | (rename_i A B C D a b c d; (first | refine zx (a ?_) | refine zy (b ?_) | refine zz (fun hc => c ?_) (fun hc => d ?_) | refine zv (b ?_) | refine zw (a ?_)) <;> clear a b c d A B C D <;> try simp only [yL] at hc)) | refine zA ?_ | refine zB ?_ | refine zF ?_)
    exact hbad fun h => h2 h.2.1
  have d2 : decide (1 ≤ r.h ∧ r.h ≤ 15 - r.t) = true := decide_eq_true h2
  repeat' (first | refine zn ?_ | refine zK rfl ?_ | refine zP rfl ?_ | ((first | refine zm ?_ | skip); intro _; intros; simp (disch := first | exact zd | fail) only [↓yS, yT, gresults, gone, ↓reduceIte, Nat.reduceEqDiff, Nat.reduceAdd, Nat.reduceMul, reduceCtorEq, Int.reduceToNat, g29, RG, d2, Bool.not_true]; first | (rename_i K k; (first | refine yC (k _ _ ?_) | refine zg (k _ ?_)); clear k K) | (rename_i A B C D a b c d; (first | refine zx (a ?_) | refine zy (b ?_) | refine zz (fun hc => c ?_) (fun hc => d ?_) | refine zv (b ?_) | refine zw (a ?_)) <;> clear a b c d A B C D <;> try simp only [yL] at hc)) | refine zA ?_ | refine zB ?_ | refine zF ?_)
  intro K' hK'; refine G1_call (by simp only [gtarget, ↓GArg.ev, ↓evs, ↓Tr.get_set, Nat.reduceEqDiff, if_true, if_false, ↓reduceIte, Option.map_some, RG]; rfl) (one_of (from_ok _)) fun r1 H1 hq => hK' _ _ ?_
  obtain ⟨rfl, rfl⟩ := hq
  by_cases h3 : 0 ≤ r.l ∧ r.l ≤ 31
  case neg =>
    have d3 : decide (0 ≤ r.l ∧ r.l ≤ 31) = false := decide_eq_false h3
    repeat' (first | refine zn ?_ | refine zK rfl ?_ | refine zP rfl ?_ | ((first | refine zm ?_ | skip); intro _; intros; simp (disch := first | exact zd | fail) only [↓yS, yT, gresults, gone, ↓reduceIte, Nat.reduceEqDiff, Nat.reduceAdd, Nat.reduceMul, reduceCtorEq, Int.reduceToNat, g29, RG, d3, Bool.not_false]; first | (rename_i K k; (first | refine yC (k _ _ ?_) | refine zg (k _ ?_)); clear k K) | (rename_i A B C D a b c d; (first | refine zx (a ?_) | refine zy (b ?_) | refine zz (fun hc => c ?_) (fun hc => d ?_) | refine zv (b ?_) | refine zw (a ?_)) <;> clear a b c d A B C D <;> try simp only [yL] at hc)) | refine zA ?_ | refine zB ?_ | refine zF ?_)
    exact hbad fun h => h3 h.2.2.1
  have d3 : decide (0 ≤ r.l ∧ r.l ≤ 31) = true := decide_eq_true h3
  repeat' (first | refine zn ?_ | refine zK rfl ?_ | refine zP rfl ?_ | ((first | refine zm ?_ | skip); intro _; intros; simp (disch := first | exact zd | fail) only [↓yS, yT, gresults, gone, ↓reduceIte, Nat.reduceEqDiff, Nat.reduceAdd, Nat.reduceMul, reduceCtorEq, Int.reduceToNat, g29, RG, d3, Bool.not_true]; first | (rename_i K k; (first | refine yC (k _ _ ?_) | refine zg (k _ ?_)); clear k K) | (rename_i A B C D a b c d; (first | refine zx (a ?_) | refine zy (b ?_) | refine zz (fun hc => c ?_) (fun hc => d ?_) | refine zv (b ?_) | refine zw (a ?_)) <;> clear a b c d A B C D <;> try simp only [yL] at hc)) | refine zA ?_ | refine zB ?_ | refine zF ?_)
  intro K' hK'; refine G1_call (by simp only [gtarget, ↓GArg.ev, ↓evs, ↓Tr.get_set, Nat.reduceEqDiff, if_true, if_false, ↓reduceIte, Option.map_some, RG]; rfl) (one_of (from_ok _)) fun r1 H1 hq => hK' _ _ ?_
  obtain ⟨rfl, rfl⟩ := hq
  by_cases h4 : 1 ≤ r.w ∧ r.w ≤ 32 - r.l
  case neg =>
    have d4 : decide (1 ≤ r.w ∧ r.w ≤ 32 - r.l) = false := decide_eq_false h4
    repeat' (first | refine zn ?_ | refine zK rfl ?_ | refine zP rfl ?_ | ((first | refine zm ?_ | skip); intro _; intros; simp (disch := first | exact zd | fail) only [↓yS, yT, gresults, gone, ↓reduceIte, Nat.reduceEqDiff, Nat.reduceAdd, Nat.reduceMul, reduceCtorEq, Int.reduceToNat, g29, RG, d4, Bool.not_false]; first | (rename_i K k; (first | refine yC (k _ _ ?_) | refine zg (k _ ?_)); clear k K) | (rename_i A B C D a b c d; (first | refine zx (a ?_) | refine zy (b ?_) | refine zz (fun hc => c ?_) (fun hc => d ?_) | refine zv (b ?_) | refine zw (a ?_)) <;> clear a b c d A B C D <;> try simp only [yL] at hc)) | refine zA ?_ | refine zB ?_ | refine zF ?_)
    exact hbad fun h => h4 h.2.2.2
  have d4 : decide (1 ≤ r.w ∧ r.w ≤ 32 - r.l) = true := decide_eq_true h4
  rw [if_pos ⟨h1, h2, h3, h4⟩] at hPost
  clear hbad
  repeat' (first | refine zn ?_ | refine zK rfl ?_ | refine zP rfl ?_ | ((first | refine zm ?_ | skip); intro _; intros; simp (disch := first | exact zd | fail) only [↓yS, yT, gresults, gone, ↓reduceIte, Nat.reduceEqDiff, Nat.reduceAdd, Nat.reduceMul, reduceCtorEq, Int.reduceToNat, g29, RG, d4, Bool.not_true]; first | (rename_i K k; (first | refine yC (k _ _ ?_) | refine zg (k _ ?_)); clear k K) | (rename_i A B C D a b c d; (first | refine zx (a ?_) | refine zy (b ?_) | refine zz (fun hc => c ?_) (fun hc => d ?_) | refine zv (b ?_) | refine zw (a ?_)) <;> clear a b c d A B C D <;> try simp only [yL] at hc)) | refine zA ?_ | refine zB ?_ | refine zF ?_)
  all_goals first
    | (rw [if_neg (by omega)] at hPost; exact hPost _)
    | (rw [if_pos (by omega)] at hPost; exact hPost _)
/-- is it fit for use -/
noncomputable def usB (r : Rg) : Bool := decide (r = dfl) || decide (rgE r = 0)
theorem usB_ok (r : Rg) : usB r = true ↔ usabl r := by
  unfold usB usabl
  rw [Bool.or_eq_true, decide_eq_true_eq, decide_eq_true_eq, rgE_ok]
theorem usable_ok {r : Rg} (hr : smG r) (H : GHeap) : gev G 50 [rgV r] H = some (.bool (usB r), H) := by
  refine gev_GWP (f := 50) rfl (by simp only [List.all_cons, List.all_nil, rgV_lit, Bool.and_true]) rfl (fun Post hPost => ?_) H
  have hw := root_wf
  have hlim := hw.1
  simp only [frameOf, Nat.reduceAdd]
  unfold usB at hPost
  repeat' (first | refine zn ?_ | refine zK rfl ?_ | refine zP rfl ?_ | ((first | refine zm ?_ | skip); intro _; intros; simp (disch := first | exact zd | fail) only [↓yS, yT, gresults, gone, ↓reduceIte, Nat.reduceEqDiff, Nat.reduceAdd, Nat.reduceMul, reduceCtorEq, Int.reduceToNat, g50, RG]; first | (rename_i K k; (first | refine yC (k _ _ ?_) | refine zg (k _ ?_)); clear k K) | (rename_i A B C D a b c d; (first | refine zx (a ?_) | refine zy (b ?_) | refine zz (fun hc => c ?_) (fun hc => d ?_) | refine zv (b ?_) | refine zw (a ?_)) <;> clear a b c d A B C D <;> try simp only [yL] at hc)) | refine zA ?_ | refine zB ?_ | refine zF ?_)
  refine Gw_s fun K' hK' => G1_callM (by simp only [gtarget, ↓GArg.ev, ↓evs, ↓Tr.get_set, Nat.reduceEqDiff, if_true, if_false, ↓reduceIte, Option.map_some, RG]; rfl) (one_of (default_ok _)) fun r1 H1 hq => hK' _ _ ?_
  obtain ⟨rfl, rfl⟩ := hq
  rw [updown]
  by_cases h1 : r = dfl
  · rw [decide_eq_true h1, Bool.true_or] at hPost
    have d1 : decide (r = dfl) = true := decide_eq_true h1
    repeat' (first | refine zn ?_ | refine zK rfl ?_ | refine zP rfl ?_ | ((first | refine zm ?_ | skip); intro _; intros; simp (disch := first | exact zd | fail) only [↓yS, yT, gresults, gone, ↓reduceIte, Nat.reduceEqDiff, Nat.reduceAdd, Nat.reduceMul, reduceCtorEq, Int.reduceToNat, g50, RG, d1]; first | (rename_i K k; (first | refine yC (k _ _ ?_) | refine zg (k _ ?_)); clear k K) | (rename_i A B C D a b c d; (first | refine zx (a ?_) | refine zy (b ?_) | refine zz (fun hc => c ?_) (fun hc => d ?_) | refine zv (b ?_) | refine zw (a ?_)) <;> clear a b c d A B C D <;> try simp only [yL] at hc)) | refine zA ?_ | refine zB ?_ | refine zF ?_)
    exact hPost _
  rw [decide_eq_false h1, Bool.false_or] at hPost
  have d1 : decide (r = dfl) = false := decide_eq_false h1
  repeat' (first | refine zn ?_ | refine zK rfl ?_ | refine zP rfl ?_ | ((first | refine zm ?_ | skip); intro _; intros; simp (disch := first | exact zd | fail) only [↓yS, yT, gresults, gone, ↓reduceIte, Nat.reduceEqDiff, Nat.reduceAdd, Nat.reduceMul, reduceCtorEq, Int.reduceToNat, g50, RG, d1]; first | (rename_i K k; (first | refine yC (k _ _ ?_) | refine zg (k _ ?_)); clear k K) | (rename_i A B C D a b c d; (first | refine zx (a ?_) | refine zy (b ?_) | refine zz (fun hc => c ?_) (fun hc => d ?_) | refine zv (b ?_) | refine zw (a ?_)) <;> clear a b c d A B C D <;> try simp only [yL] at hc)) | refine zA ?_ | refine zB ?_ | refine zF ?_)
  intro K' hK'; refine G1_callM (by simp only [gtarget, ↓GArg.ev, ↓evs, ↓Tr.get_set, Nat.reduceEqDiff, if_true, if_false, ↓reduceIte, Option.map_some, RG]; rfl) (one_of (rgCheck_ok hr _)) fun r1 H1 hq => hK' _ _ ?_
  obtain ⟨rfl, rfl⟩ := hq
  rw [updown]
  repeat' (first | refine zn ?_ | refine zK rfl ?_ | refine zP rfl ?_ | ((first | refine zm ?_ | skip); intro _; intros; simp (disch := first | exact zd | fail) only [↓yS, yT, gresults, gone, ↓reduceIte, Nat.reduceEqDiff, Nat.reduceAdd, Nat.reduceMul, reduceCtorEq, Int.reduceToNat, g50, RG]; first | (rename_i K k; (first | refine yC (k _ _ ?_) | refine zg (k _ ?_)); clear k K) | (rename_i A B C D a b c d; (first | refine zx (a ?_) | refine zy (b ?_) | refine zz (fun hc => c ?_) (fun hc => d ?_) | refine zv (b ?_) | refine zw (a ?_)) <;> clear a b c d A B C D <;> try simp only [yL] at hc)) | refine zA ?_ | refine zB ?_ | refine zF ?_)
  exact hPost _
end Go.Gh
