/-
  region, walked: the places of rows.
-/
import Derived.Test.YtjjcgaompnjbdaaDoorTrW3
namespace Go.Gh
set_option linter.unusedSimpArgs false
set_option linter.unusedVariables false
set_option maxHeartbeats 4000000
open Go.RowKit
set_option maxRecDepth 4000

def spC (a b c : Int) : List Value := [.int .i64 a, .int .i64 b, .int .i64 c]
def spV' (a b c : Int) : Value := .agg #[.int .i64 a, .int .i64 b, .int .i64 c]
theorem sp_cells (a b c : Int) : (spV' a b c).cells.toList = spC a b c := rfl
theorem sp_cflat (a b c : Int) : (spV' a b c).cells.all flatV = true := by rw [← Array.all_toList]; simp [sp_cells, spC, flatV]
theorem sp_eq (a b c : Int) : Value.agg #[.int .i64 a, .int .i64 b, .int .i64 c] = spV' a b c := rfl
theorem spC_1 (a b c : Int) : (spC a b c)[1]? = some (.int .i64 b) := rfl
theorem gsetn_sp {cs : List Value} {a b c : Int} (h : cs.length = 3) : gsetn cs 0 3 (spV' a b c) = some (spC a b c) := gsetn_all h rfl (by simp [flatV])
theorem gset_sp {a b c x : Int} : gset (spC a b c) 1 (.int .i64 x) = some (spC a x c) := gset_ok (by simp [spC]) rfl
theorem rdn_spp {H : GHeap} {j : Nat} {a b c : Int} {u : Nat} {q : Bool} : (H.put j (.cells (spC a b c) u q)).rdn j 0 3 = some (spV' a b c) := rdn_put_all rfl
theorem fill_sp {a b c : Int} : fillL (zeros [.int .i64 0, .int .i64 0, .int .i64 0] 1) [(0, 3, spV' a b c)] = some (spC a b c) := by
  have : (spC a b c).all flatV = true := by simp [spC, flatV]
  simp [fillL, sp_cells, zeros, this, spC, flatV]
theorem RP : type_of% (And.intro (And.intro (And.intro @sp_cells @sp_cflat) (And.intro @sp_eq @spC_1)) (And.intro (And.intro @gsetn_sp @gset_sp) (And.intro @rdn_spp @fill_sp))) := ⟨⟨⟨@sp_cells, @sp_cflat⟩, ⟨@sp_eq, @spC_1⟩⟩, ⟨⟨@gsetn_sp, @gset_sp⟩, ⟨@rdn_spp, @fill_sp⟩⟩⟩
theorem us_range {r : Rg} (h : usabl r) : (0 ≤ r.t ∧ r.t ≤ 14) ∧ (1 ≤ r.h ∧ r.h ≤ 15) ∧ (0 ≤ r.l ∧ r.l ≤ 31) ∧ (1 ≤ r.w ∧ r.w ≤ 32) := by
  rcases h with rfl | h
  · exact ⟨by decide, by decide, by decide, by decide⟩
  · unfold rgOk at h; omega
theorem place_ok' {H : GHeap} (hw : H.wf) {r : Rg} (hr : smG r) {w : Value} {N : List Int} (hN : GRd H 1 w N.length (ints .i64 N)) (hl : N.length ≤ 1048576) :
    ∃ res H', gev G 34 [rgV r, w] H = some (res, H') ∧ (∃ s e, res = .tuple #[s, e] ∧ ErrIs e (plcOk r N) ∧ Same H H') := by
  refine gev_GW (f := 34) rfl fun Post hPost => ?_
  have hlim := hw.1
  have hsl := hN.isSl
  simp only [frameOf, Nat.reduceAdd]
  have hbd : ∀ {s : Value} {n : Int} {H'}, n ≠ 0 → Same H H' → ¬ plcOk r N → Post (.tuple #[s, .int .i64 n]) H' := fun hn hS h => hPost _ _ ⟨_, _, rfl, ErrIs.no hn h, hS⟩
  have hS1 : Same H (H.add (some (.cells (rgC r) 0 true))) := (Same.refl hw).add _
  repeat' (first | refine zn ?_ | refine zK rfl ?_ | refine zP rfl ?_ | ((first | refine zm ?_ | skip); intro _; intros; simp (disch := first | exact zd | fail) only [↓yS, yT, gresults, gone, ↓reduceIte, Nat.reduceEqDiff, Nat.reduceAdd, Nat.reduceMul, reduceCtorEq, Int.reduceToNat, g34, RG, hsl.len]; first | (rename_i K k; (first | refine yC (k _ _ ?_) | refine zg (k _ ?_)); clear k K) | (rename_i A B C D a b c d; (first | refine zx (a ?_) | refine zy (b ?_) | refine zz (fun hc => c ?_) (fun hc => d ?_) | refine zv (b ?_) | refine zw (a ?_)) <;> clear a b c d A B C D <;> try simp only [yL] at hc)) | refine zA ?_ | refine zB ?_ | refine zF ?_)
  refine Gw_s fun K' hK' => G1_call (by simp only [gtarget, ↓GArg.ev, ↓evs, ↓Tr.get_set, Nat.reduceEqDiff, if_true, if_false, ↓reduceIte, Option.map_some, RG]; rfl) (one_of (usable_ok hr _)) fun r1 H1 hq => hK' _ _ ?_
  obtain ⟨rfl, rfl⟩ := hq
  by_cases hu : usabl r
  case neg =>
    have d0 : usB r = false := by rw [← Bool.not_eq_true, usB_ok]; exact hu
    repeat' (first | refine zn ?_ | refine zK rfl ?_ | refine zP rfl ?_ | ((first | refine zm ?_ | skip); intro _; intros; simp (disch := first | exact zd | fail) only [↓yS, yT, gresults, gone, ↓reduceIte, Nat.reduceEqDiff, Nat.reduceAdd, Nat.reduceMul, reduceCtorEq, Int.reduceToNat, g34, RG, d0, Bool.not_false]; first | (rename_i K k; (first | refine yC (k _ _ ?_) | refine zg (k _ ?_)); clear k K) | (rename_i A B C D a b c d; (first | refine zx (a ?_) | refine zy (b ?_) | refine zz (fun hc => c ?_) (fun hc => d ?_) | refine zv (b ?_) | refine zw (a ?_)) <;> clear a b c d A B C D <;> try simp only [yL] at hc)) | refine zA ?_ | refine zB ?_ | refine zF ?_)
    exact hbd (by decide) hS1 fun h => hu h.1
  have d0 : usB r = true := (usB_ok r).2 hu
  obtain ⟨u1, u2, u3, u4⟩ := us_range hu
  repeat' (first | refine zn ?_ | refine zK rfl ?_ | refine zP rfl ?_ | ((first | refine zm ?_ | skip); intro _; intros; simp (disch := first | exact zd | fail) only [↓yS, yT, gresults, gone, ↓reduceIte, Nat.reduceEqDiff, Nat.reduceAdd, Nat.reduceMul, reduceCtorEq, Int.reduceToNat, g34, RG, d0, Bool.not_true, hsl.len]; first | (rename_i K k; (first | refine yC (k _ _ ?_) | refine zg (k _ ?_)); clear k K) | (rename_i A B C D a b c d; (first | refine zx (a ?_) | refine zy (b ?_) | refine zz (fun hc => c ?_) (fun hc => d ?_) | refine zv (b ?_) | refine zw (a ?_)) <;> clear a b c d A B C D <;> try simp only [yL] at hc)) | refine zA ?_ | refine zB ?_ | refine zF ?_)
  case pos.refine_1 => exact hbd (by decide) hS1 fun h => by have := h.2.1; omega
  all_goals
    refine GW_loop (fun k fr H1 => ∃ (j : Nat) (tp : Int) (s : Value) (xs : List Value), k = N.length - j ∧ j ≤ N.length ∧ fr.get 2 = some (.pointer (some ⟨H.len, 0, none⟩)) ∧ fr.get 6 = some (.int .i64 tp) ∧ fr.get 7 = some (s) ∧ fr.get 32 = some (w) ∧ fr.get 33 = some (.int .i64 N.length) ∧ fr.get 34 = some (.int .i64 j) ∧ OS 3 3 (H.add (some (.cells (rgC r) 0 true))) H1 s j xs ∧ (0 ≤ tp ∧ tp ≤ 40) ∧ ∀ i, i < j → 0 ≤ N[i]! ∧ N[i]! ≤ r.w) ?_ N.length ?_
    rotate_left
    · first
        | (refine ⟨0, r.t + (r.h - N.length), .slice none 0 0, [], by omega, by omega, ?_⟩
           simp only [↓yG, Nat.reduceEqDiff, ↓reduceIte, Int.natCast_add, Int.cast_ofNat_Int, Int.natCast_zero, true_and, and_true, Option.some.injEq, Value.int.injEq]
           exact ⟨OS.nil (Same.refl hS1.wf), by omega, fun i hi => absurd hi (by omega)⟩)
        | (refine ⟨0, r.t, .slice none 0 0, [], by omega, by omega, ?_⟩
           simp only [↓yG, Nat.reduceEqDiff, ↓reduceIte, Int.natCast_add, Int.cast_ofNat_Int, Int.natCast_zero, true_and, and_true, Option.some.injEq, Value.int.injEq]
           exact ⟨OS.nil (Same.refl hS1.wf), by omega, fun i hi => absurd hi (by omega)⟩)
    rintro k fr H1 ⟨j, tp, s, xs, rfl, hj, f2, f6, f7, f32, f33, f34, hO, htp, hall⟩ J hJ
    have hS := hS1.trans hO.same
    have hw1 := hS.wf
    have hlim1 := hw1.1
    have hll1 := hO.same.len
    rw [len_add] at hll1
    have hr0 : ∀ c, H1.rd H.len c = (rgC r)[c]? := fun c => by rw [hO.same.rd (by rw [len_add]; omega), rd_add_eq rfl]
    have q1 := hr0 1
    have q3 := hr0 3
    have q4 := hr0 4
    have q5 := hr0 5
    clear hr0
    by_cases hj1 : j < N.length
    · have e1 : H1.rd (blk w) (ofs w + j) = some (.int .i64 N[j]!) := by
        rw [(hN.same hS).rd (by rw [ints_length]; exact hj1), ints_at hj1]
      have hnx : 0 ≤ N[j]! ∧ N[j]! ≤ r.w → ∀ i, i < j + 1 → 0 ≤ N[i]! ∧ N[i]! ≤ r.w := fun h i hi => by
        by_cases e : i = j
        · subst e; exact h
        · exact hall i (by omega)
      have hbd2 : ∀ {s : Value} {n : Int}, n ≠ 0 → ¬ (0 ≤ N[j]! ∧ N[j]! ≤ r.w) → Post (.tuple #[s, .int .i64 n]) H1 := fun hn h => hbd hn hS fun hh => h (hh.2.2 _ (bang_mem hj1))
      generalize N[j]! = n at *
      by_cases hn : 0 ≤ n ∧ n ≤ r.w
      case neg =>
        repeat' (first | (exfalso; omega) | refine zn ?_ | refine zK rfl ?_ | refine zP rfl ?_ | ((first | refine zm ?_ | skip); intro _; intros; simp (disch := first | exact zd | fail) only [↓yS, yT, gresults, gone, ↓reduceIte, Nat.reduceEqDiff, Nat.reduceAdd, Nat.reduceMul, reduceCtorEq, Int.reduceToNat, g34, f2, f6, f7, f32, f33, f34, RG, RP, hsl.ia, Nat.mul_one, e1, q4]; first | (rename_i K k; (first | refine yC (k _ _ ?_) | refine zg (k _ ?_)); clear k K) | (rename_i A B C D a b c d; (first | refine zx (a ?_) | refine zy (b ?_) | refine zz (fun hc => c ?_) (fun hc => d ?_) | refine zv (b ?_) | refine zw (a ?_)) <;> clear a b c d A B C D <;> try simp only [yL] at hc)) | refine zA ?_ | refine zB ?_ | refine zF ?_)
        all_goals exact hbd2 (by decide) hn
      have dv := dv64 (e := none) (a := r.w - n) (b := 2) (by omega) (by omega) (by omega)
      have g1 : decide (n < 0) = false := decide_eq_false (by omega)
      have g2 : decide (r.w < n) = false := decide_eq_false (by omega)
      have hS0 : Same H1 ((H1.add (some (.cells [.int .i64 0, .int .i64 0, .int .i64 0] 0 true))).put H1.len (.cells (spC (tp + j) r.l n) 0 true)) := (Same.refl hw1).new _ _
      have hA : ∀ b : Int, ∃ v' H', gapp 3 24 3 (((H1.add (some (.cells [.int .i64 0, .int .i64 0, .int .i64 0] 0 true))).put H1.len (.cells (spC (tp + j) b n) 0 true)).add (some (.cells (spC (tp + j) b n) 3 true))) s (.slice (some ⟨H1.len + 1, 0, none⟩) 1 2) = some (v', H') ∧ OS 3 3 (H.add (some (.cells (rgC r) 0 true))) H' v' (j + 1) (xs ++ spC (tp + j) b n) := fun b => by
        obtain ⟨v', H', e, h, _⟩ := (hO.later (H' := (H1.add (some (.cells [.int .i64 0, .int .i64 0, .int .i64 0] 0 true))).put H1.len (.cells (spC (tp + j) b n) 0 true)) ((Same.refl hw1).new _ _)).app1 (by decide) (by decide) (news := spC (tp + j) b n) rfl (b := 24) (by omega) (by omega)
        exact ⟨v', H', e, h⟩
      by_cases a3 : r.al = 3
      · have z3 : decide (r.al = 3) = true := decide_eq_true (by omega)
        have z2 : decide (r.al = 2) = false := decide_eq_false (by omega)
        repeat' (first | (exfalso; omega) | refine zn ?_ | refine zK rfl ?_ | refine zP rfl ?_ | ((first | refine zm ?_ | skip); intro _; intros; simp (disch := first | exact zd | fail) only [↓yS, yT, gresults, gone, ↓reduceIte, Nat.reduceEqDiff, Nat.reduceAdd, Nat.reduceMul, reduceCtorEq, Int.reduceToNat, g34, f2, f6, f7, f32, f33, f34, RG, RP, hsl.ia, Nat.mul_one, e1, q1, q3, q4, q5, dv, g1, g2, z3, z2]; first | (rename_i K k; (first | refine yC (k _ _ ?_) | refine zg (k _ ?_)); clear k K) | (rename_i A B C D a b c d; (first | refine zx (a ?_) | refine zy (b ?_) | refine zz (fun hc => c ?_) (fun hc => d ?_) | refine zv (b ?_) | refine zw (a ?_)) <;> clear a b c d A B C D <;> try simp only [yL] at hc)) | refine zA ?_ | refine zB ?_ | refine zF ?_)
        refine Gw_s fun K' hK' => ?_
        simp (disch := first | exact zd | fail) only [↓yS, yT, ↓reduceIte, Nat.reduceEqDiff, Nat.reduceAdd, Nat.reduceMul, reduceCtorEq, Int.reduceToNat, f2, f6, f7, f32, f33, f34]
        obtain ⟨v', H', e, hO'⟩ := hA (r.l + (r.w - n))
        refine G1_eq e (hK' _ _ ?_)
        clear hK' K' e
        repeat' (first | (exfalso; omega) | refine zn ?_ | refine zK rfl ?_ | refine zP rfl ?_ | ((first | refine zm ?_ | skip); intro _; intros; simp (disch := first | exact zd | fail) only [↓yS, yT, gresults, gone, ↓reduceIte, Nat.reduceEqDiff, Nat.reduceAdd, Nat.reduceMul, reduceCtorEq, Int.reduceToNat, g34, f2, f6, f7, f32, f33, f34]; first | (rename_i K k; (first | refine yC (k _ _ ?_) | refine zg (k _ ?_)); clear k K) | (rename_i A B C D a b c d; (first | refine zx (a ?_) | refine zy (b ?_) | refine zz (fun hc => c ?_) (fun hc => d ?_) | refine zv (b ?_) | refine zw (a ?_)) <;> clear a b c d A B C D <;> try simp only [yL] at hc)) | refine zA ?_ | refine zB ?_ | refine zF ?_)
        refine hJ _ _ ⟨N.length - (j + 1), by omega, j + 1, tp, v', xs ++ spC (tp + j) (r.l + (r.w - n)) n, rfl, by omega, ?_⟩
        simp only [↓yG, Nat.reduceEqDiff, ↓reduceIte, Int.natCast_add, Int.cast_ofNat_Int, Int.natCast_zero, true_and, and_true, Option.some.injEq, Value.int.injEq, f2, f6, f32, f33]
        exact ⟨hO', htp, hnx hn⟩
      by_cases a2 : r.al = 2
      · have z3 : decide (r.al = 3) = false := decide_eq_false (by omega)
        have z2 : decide (r.al = 2) = true := decide_eq_true (by omega)
        repeat' (first | (exfalso; omega) | refine zn ?_ | refine zK rfl ?_ | refine zP rfl ?_ | ((first | refine zm ?_ | skip); intro _; intros; simp (disch := first | exact zd | fail) only [↓yS, yT, gresults, gone, ↓reduceIte, Nat.reduceEqDiff, Nat.reduceAdd, Nat.reduceMul, reduceCtorEq, Int.reduceToNat, g34, f2, f6, f7, f32, f33, f34, RG, RP, hsl.ia, Nat.mul_one, e1, q1, q3, q4, q5, dv, g1, g2, z3, z2]; first | (rename_i K k; (first | refine yC (k _ _ ?_) | refine zg (k _ ?_)); clear k K) | (rename_i A B C D a b c d; (first | refine zx (a ?_) | refine zy (b ?_) | refine zz (fun hc => c ?_) (fun hc => d ?_) | refine zv (b ?_) | refine zw (a ?_)) <;> clear a b c d A B C D <;> try simp only [yL] at hc)) | refine zA ?_ | refine zB ?_ | refine zF ?_)
        refine Gw_s fun K' hK' => ?_
        simp (disch := first | exact zd | fail) only [↓yS, yT, ↓reduceIte, Nat.reduceEqDiff, Nat.reduceAdd, Nat.reduceMul, reduceCtorEq, Int.reduceToNat, f2, f6, f7, f32, f33, f34]
        obtain ⟨v', H', e, hO'⟩ := hA (r.l + (r.w - n) / 2)
        refine G1_eq e (hK' _ _ ?_)
        clear hK' K' e
        repeat' (first | (exfalso; omega) | refine zn ?_ | refine zK rfl ?_ | refine zP rfl ?_ | ((first | refine zm ?_ | skip); intro _; intros; simp (disch := first | exact zd | fail) only [↓yS, yT, gresults, gone, ↓reduceIte, Nat.reduceEqDiff, Nat.reduceAdd, Nat.reduceMul, reduceCtorEq, Int.reduceToNat, g34, f2, f6, f7, f32, f33, f34]; first | (rename_i K k; (first | refine yC (k _ _ ?_) | refine zg (k _ ?_)); clear k K) | (rename_i A B C D a b c d; (first | refine zx (a ?_) | refine zy (b ?_) | refine zz (fun hc => c ?_) (fun hc => d ?_) | refine zv (b ?_) | refine zw (a ?_)) <;> clear a b c d A B C D <;> try simp only [yL] at hc)) | refine zA ?_ | refine zB ?_ | refine zF ?_)
        refine hJ _ _ ⟨N.length - (j + 1), by omega, j + 1, tp, v', xs ++ spC (tp + j) (r.l + (r.w - n) / 2) n, rfl, by omega, ?_⟩
        simp only [↓yG, Nat.reduceEqDiff, ↓reduceIte, Int.natCast_add, Int.cast_ofNat_Int, Int.natCast_zero, true_and, and_true, Option.some.injEq, Value.int.injEq, f2, f6, f32, f33]
        exact ⟨hO', htp, hnx hn⟩
      have z3 : decide (r.al = 3) = false := decide_eq_false (by omega)
      have z2 : decide (r.al = 2) = false := decide_eq_false (by omega)
      repeat' (first | (exfalso; omega) | refine zn ?_ | refine zK rfl ?_ | refine zP rfl ?_ | ((first | refine zm ?_ | skip); intro _; intros; simp (disch := first | exact zd | fail) only [↓yS, yT, gresults, gone, ↓reduceIte, Nat.reduceEqDiff, Nat.reduceAdd, Nat.reduceMul, reduceCtorEq, Int.reduceToNat, g34, f2, f6, f7, f32, f33, f34, RG, RP, hsl.ia, Nat.mul_one, e1, q1, q3, q4, q5, dv, g1, g2, z3, z2]; first | (rename_i K k; (first | refine yC (k _ _ ?_) | refine zg (k _ ?_)); clear k K) | (rename_i A B C D a b c d; (first | refine zx (a ?_) | refine zy (b ?_) | refine zz (fun hc => c ?_) (fun hc => d ?_) | refine zv (b ?_) | refine zw (a ?_)) <;> clear a b c d A B C D <;> try simp only [yL] at hc)) | refine zA ?_ | refine zB ?_ | refine zF ?_)
      refine Gw_s fun K' hK' => ?_
      simp (disch := first | exact zd | fail) only [↓yS, yT, ↓reduceIte, Nat.reduceEqDiff, Nat.reduceAdd, Nat.reduceMul, reduceCtorEq, Int.reduceToNat, f2, f6, f7, f32, f33, f34]
      obtain ⟨v', H', e, hO'⟩ := hA (r.l)
      refine G1_eq e (hK' _ _ ?_)
      clear hK' K' e
      repeat' (first | (exfalso; omega) | refine zn ?_ | refine zK rfl ?_ | refine zP rfl ?_ | ((first | refine zm ?_ | skip); intro _; intros; simp (disch := first | exact zd | fail) only [↓yS, yT, gresults, gone, ↓reduceIte, Nat.reduceEqDiff, Nat.reduceAdd, Nat.reduceMul, reduceCtorEq, Int.reduceToNat, g34, f2, f6, f7, f32, f33, f34]; first | (rename_i K k; (first | refine yC (k _ _ ?_) | refine zg (k _ ?_)); clear k K) | (rename_i A B C D a b c d; (first | refine zx (a ?_) | refine zy (b ?_) | refine zz (fun hc => c ?_) (fun hc => d ?_) | refine zv (b ?_) | refine zw (a ?_)) <;> clear a b c d A B C D <;> try simp only [yL] at hc)) | refine zA ?_ | refine zB ?_ | refine zF ?_)
      refine hJ _ _ ⟨N.length - (j + 1), by omega, j + 1, tp, v', xs ++ spC (tp + j) (r.l) n, rfl, by omega, ?_⟩
      simp only [↓yG, Nat.reduceEqDiff, ↓reduceIte, Int.natCast_add, Int.cast_ofNat_Int, Int.natCast_zero, true_and, and_true, Option.some.injEq, Value.int.injEq, f2, f6, f32, f33]
      exact ⟨hO', htp, hnx hn⟩
    · obtain rfl : j = N.length := by omega
      repeat' (first | (exfalso; omega) | refine zn ?_ | refine zK rfl ?_ | refine zP rfl ?_ | ((first | refine zm ?_ | skip); intro _; intros; simp (disch := first | exact zd | fail) only [↓yS, yT, gresults, gone, ↓reduceIte, Nat.reduceEqDiff, Nat.reduceAdd, Nat.reduceMul, reduceCtorEq, Int.reduceToNat, g34, f2, f6, f7, f32, f33, f34]; first | (rename_i K k; (first | refine yC (k _ _ ?_) | refine zg (k _ ?_)); clear k K) | (rename_i A B C D a b c d; (first | refine zx (a ?_) | refine zy (b ?_) | refine zz (fun hc => c ?_) (fun hc => d ?_) | refine zv (b ?_) | refine zw (a ?_)) <;> clear a b c d A B C D <;> try simp only [yL] at hc)) | refine zA ?_ | refine zB ?_ | refine zF ?_)
      refine hPost _ _ ⟨_, _, rfl, ErrIs.yes ⟨hu, by omega, fun n hn => ?_⟩, hS⟩
      obtain ⟨i, hi, rfl⟩ := List.getElem_of_mem hn
      have := hall i hi
      rwa [getElem!_pos N i hi] at this
end Go.Gh
