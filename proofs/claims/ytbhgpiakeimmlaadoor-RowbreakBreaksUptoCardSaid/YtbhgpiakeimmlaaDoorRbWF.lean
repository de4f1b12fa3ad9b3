/-
  rowbreak's reference, walked: potentials.
-/
import Derived.Test.YtbhgpiakeimmlaaDoorRbWC
namespace Go.Gh
set_option linter.unusedSimpArgs false
set_option linter.unusedVariables false
open Go.RowKit
set_option maxRecDepth 4000

theorem bang_set_eq {l : List Int} {x : Nat} {v : Int} (h : x < l.length) : (l.set x v)[x]! = v := by
  rw [getElem!_pos _ _ (by simpa using h)]; simp
theorem bang_set_ne {l : List Int} {x y : Nat} {v : Int} (h : x ≠ y) : (l.set x v)[y]! = l[y]! := by
  by_cases hy : y < l.length
  · rw [getElem!_pos (l.set x v) y (by simpa using hy), getElem!_pos l y hy, List.getElem_set_ne h]
  · have h1 : (l.set x v)[y]? = none := by simp; omega
    have h2 : l[y]? = none := by simp; omega
    simp only [List.getElem!_eq_getElem?_getD, h1, h2]
theorem idx_inj {n k i k' i' : Nat} (hi : i ≤ n) (hi' : i' ≤ n) (h : k * (n + 1) + i = k' * (n + 1) + i') : k = k' ∧ i = i' := by
  have h1 : (k * (n + 1) + i) / (n + 1) = k := by rw [Nat.mul_comm, Nat.mul_add_div (by omega), Nat.div_eq_of_lt (by omega), Nat.add_zero]
  have h2 : (k' * (n + 1) + i') / (n + 1) = k' := by rw [Nat.mul_comm, Nat.mul_add_div (by omega), Nat.div_eq_of_lt (by omega), Nat.add_zero]
  have h3 : k = k' := by rw [← h1, ← h2, h]
  subst h3
  exact ⟨rfl, by omega⟩
theorem idx_lt' {R n k i : Nat} (hk : k ≤ R) (hi : i ≤ n) : k * (n + 1) + i < (R + 1) * (n + 1) := by
  have h1 : (k + 1) * (n + 1) ≤ (R + 1) * (n + 1) := Nat.mul_le_mul_right _ (by omega)
  rw [Nat.add_mul, Nat.one_mul] at h1
  omega
/-- a table whose places from one on are set -/
def PotF (D : DD) (R : Nat) (kk ii : Nat) (pot : List Int) : Prop :=
  pot.length = (R + 1) * (D.n + 1) ∧ ∀ k i, k ≤ R → i ≤ D.n → (kk ≤ k ∨ (k + 1 = kk ∧ ii ≤ i) ∨ i = D.n) → pot[k * (D.n + 1) + i]! = D.P (R - k) i
theorem PotF.set {D : DD} {R k i : Nat} {pot : List Int} (h : PotF D R (k + 1) (i + 1) pot) (hk : k ≤ R) (hi : i < D.n) : PotF D R (k + 1) i (pot.set (k * (D.n + 1) + i) (D.P (R - k) i)) := by
  refine ⟨by simp [h.1], fun k' i' hk' hi' hc => ?_⟩
  by_cases e : k * (D.n + 1) + i = k' * (D.n + 1) + i'
  · obtain ⟨rfl, rfl⟩ := idx_inj (by omega) hi' e
    rw [bang_set_eq (by rw [h.1]; exact idx_lt' hk hi')]
  · rw [bang_set_ne e]
    refine h.2 k' i' hk' hi' ?_
    rcases hc with hc | ⟨hc, hc2⟩ | hc
    · exact .inl hc
    · by_cases e2 : i = i'
      · exfalso; subst e2
        have : k = k' := by omega
        subst this; exact e rfl
      · exact .inr (.inl ⟨hc, by omega⟩)
    · exact .inr (.inr hc)
theorem PotF.row {D : DD} {R k : Nat} {pot : List Int} (h : PotF D R (k + 1) 0 pot) : PotF D R k D.n pot :=
  ⟨h.1, fun k' i' hk' hi' hc => h.2 k' i' hk' hi' (by
    rcases hc with hc | ⟨hc, hc2⟩ | hc
    · by_cases e : k + 1 ≤ k'
      · exact .inl e
      · exact .inr (.inl ⟨by omega, by omega⟩)
    · exact .inr (.inr (by omega))
    · exact .inr (.inr hc))⟩
/-- the potentials up to a place -/
def potU' (D : DD) (R x : Nat) : List Int := (List.range x).map fun x => D.P (R - x / (D.n + 1)) (x % (D.n + 1))
theorem PotF.all {D : DD} {R : Nat} {pot : List Int} (h : PotF D R 0 D.n pot) : pot = potU' D R ((R + 1) * (D.n + 1)) := by
  refine List.ext_getElem (by simp [potU', h.1]) fun x h1 h2 => ?_
  have hx : x < (R + 1) * (D.n + 1) := by rw [← h.1]; exact h1
  have hm : x % (D.n + 1) ≤ D.n := Nat.le_of_lt_succ (Nat.mod_lt _ (by omega))
  have hd : x / (D.n + 1) ≤ R := Nat.le_of_lt_succ (Nat.div_lt_of_lt_mul (by rw [Nat.mul_comm]; exact hx))
  have e : x / (D.n + 1) * (D.n + 1) + x % (D.n + 1) = x := by rw [Nat.mul_comm]; exact Nat.div_add_mod _ _
  have := h.2 (x / (D.n + 1)) (x % (D.n + 1)) hd hm (.inl (Nat.zero_le _))
  rw [e, getElem!_pos pot x h1] at this
  rw [this]
  simp [potU']
set_option maxHeartbeats 4000000 in
theorem pots_ok {H : GHeap} (hw : H.wf) {p : Par} (hk : PQ H p) :
    ∃ r H', gev G 39 [parV p] H = some (r, H') ∧ (OS 1 1 H H' r ((p.r.toNat + 1) * (p.D.n + 1)) (ints .i64 (potU' p.D p.r.toNat ((p.r.toNat + 1) * (p.D.n + 1))))) := by
  refine gev_GW (f := 39) rfl fun Post hPost => ?_
  have hf := hk.pk.pr.kr.flat
  have hlim := hw.1
  have hb := par_cflat hf
  have hl := par_cells p
  have hS1 := (Same.refl hw).add (.cells (parC p) 0 true)
  have e0 : ∀ o, (H.add (some (.cells (parC p) 0 true))).rd H.len o = (parC p)[o]? := fun o => rd_add_eq rfl
  have hn := hk.pk.n
  have hG := Par.good hk.pk.ok
  have hpar := parF_ok hk.pk.ok
  have hsl := hk.pk.pr.kr.isSl
  have hD : p.D.n = p.l.length := rfl
  obtain ⟨R, hR⟩ : ∃ R : Nat, p.r = R := ⟨p.r.toNat, by omega⟩
  have hRt : p.r.toNat = R := by omega
  rw [hRt, hD] at hPost
  have hP2 : (parC p)[2]? = some (.int .i64 (R : Nat)) := by rw [parC_2, hR]
  have hm1 : ((R : Int) + 1) * ((p.l.length : Int) + 1) = (((R + 1) * (p.l.length + 1) : Nat) : Int) := by simp
  have hm2 : (R + 1) * (p.l.length + 1) ≤ 5 * (p.l.length + 1) := Nat.mul_le_mul_right _ (by omega)
  have hm3 : 0 < (R + 1) * (p.l.length + 1) := Nat.mul_pos (by omega) (by omega)
  have hb1 : 0 ≤ ((R : Int) + 1) * ((p.l.length : Int) + 1) ∧ ((R : Int) + 1) * ((p.l.length : Int) + 1) ≤ 100000 := by rw [hm1]; omega
  have hix : ∀ k i, k ≤ R → i ≤ p.l.length → k * (p.l.length + 1) + i < (R + 1) * (p.l.length + 1) := fun k i h1 h2 => idx_lt' h1 h2
  have hmI : ∀ k : Nat, (k : Int) * ((p.l.length : Int) + 1) = ((k * (p.l.length + 1) : Nat) : Int) := fun k => by simp
  have hmI1 : ∀ k : Nat, ((k : Int) + 1) * ((p.l.length : Int) + 1) = (((k + 1) * (p.l.length + 1) : Nat) : Int) := fun k => by simp
  simp only [frameOf, Nat.reduceAdd]
  repeat' (first | (exfalso; omega) | refine zA ?_ | refine zB ?_ | refine zC ?_ | refine zD ?_ | refine zE ?_ | refine zF ?_ | refine zG ?_ | refine zH ?_ | refine zI ?_ | refine zJ ?_ | refine zK rfl ?_ | refine zL ?_ | refine zM ?_ | refine zN ?_ | refine zO ?_ | refine zP rfl ?_ | refine zQ ?_ | ((first | refine zR ?_ | refine zS ?_ | refine zT ?_ | skip); intro K k; simp (disch := (first | (simp only [yD2, beq_self_eq_true, Nat.reduceLT, Nat.reduceAdd]; done) | ((fail_if_success (apply Bool.eq_iff_iff.2)); first | omega | (simp only [yD2, beq_self_eq_true, Nat.reduceLT, Nat.reduceAdd] <;> omega)) | fail)) only [↓yS, yT, ↓reduceIte, Nat.reduceEqDiff, Nat.reduceAdd, Nat.reduceMul, reduceCtorEq, Int.reduceToNat, g39, hb, hl, e0, parC_0, hsl.len, hP2, hm1]; refine yC (k _ _ ?_); clear k K) | ((first | refine zU ?_ | refine zV ?_ | refine zW ?_); intro A B C D a b c d; simp only [↓yG, Nat.reduceEqDiff, ↓reduceIte, g39, hb, hl, e0, parC_0, hsl.len, hP2, hm1]; (first | refine zX (a ?_) | refine zY (b ?_) | refine zZ (fun hc => c ?_) (fun hc => d ?_)) <;> clear a b c d A B C D <;> try simp only [yL] at hc) | (refine yA ?_; intro A a; simp only [↓yG, Nat.reduceEqDiff, ↓reduceIte, g39, hb, hl, e0, parC_0, hsl.len, hP2, hm1]; refine yB (a ?_); clear a A) | (refine yD ?_; simp only [gresults, ↓yG, Nat.reduceEqDiff, ↓reduceIte, Option.bind_some, gld_1, gld_n, g39, hb, hl, e0, parC_0, hsl.len, hP2, hm1]; refine ⟨_, rfl, ?_⟩; simp only [gone]))
  have hz : PotF p.D R (R + 1) p.D.n (List.replicate ((R + 1) * (p.l.length + 1)) 0) := by
    refine ⟨by simp [hD], fun k i h1 h2 hc => ?_⟩
    obtain rfl : i = p.D.n := by omega
    rw [P_n, hD, getElem!_pos _ _ (by simpa using hix k p.l.length h1 (Nat.le_refl _))]; simp
  have hS2 : Same H ((H.add (some (.cells (parC p) 0 true))).add (some (.cells (ints .i64 (List.replicate ((R + 1) * (p.l.length + 1)) 0)) 1 true))) := hS1.add _
  have hSa : Same (H.add (some (.cells (parC p) 0 true))) ((H.add (some (.cells (parC p) 0 true))).add (some (.cells (ints .i64 (List.replicate ((R + 1) * (p.l.length + 1)) 0)) 1 true))) := (Same.refl hS1.wf).add _
  have hm0 : ((H.add (some (.cells (parC p) 0 true))).add (some (.cells (ints .i64 (List.replicate ((R + 1) * (p.l.length + 1)) 0)) 1 true))).mine (H.len + 1) = some (ints .i64 (List.replicate ((R + 1) * (p.l.length + 1)) 0), 1) := mine_add_eq (by rw [len_add]) (by rw [lim_add]; omega)
  have ep := fun {H'} (h : Same (H.add (some (.cells (parC p) 0 true))) H') => rd_par (p := p) h
  have epn := fun {H'} (h : Same (H.add (some (.cells (parC p) 0 true))) H') => rdn_par (p := p) h
  have hw1 := hS1.wf
  have hz0 : ints .i64 (List.replicate ((R + 1) * (p.l.length + 1)) 0) = ints .i64 (List.replicate ((R + 1) * (p.l.length + 1)) 0) := rfl
  generalize (H.add (some (.cells (parC p) 0 true))).add (some (.cells (ints .i64 (List.replicate ((R + 1) * (p.l.length + 1)) 0)) 1 true)) = Ha at *
  have hinr : H.len + 1 < Ha.len := mine_lt hS2.wf hm0
  have hlb : (H.add (some (.cells (parC p) 0 true))).len = H.len + 1 := len_add
  refine GW_loop (fun m fr H1 => ∃ (kk : Nat) (pot : List Int), m = kk ∧ kk ≤ R + 1 ∧ fr.get 1 = some (.pointer (some ⟨H.len, 0, none⟩)) ∧ fr.get 3 = some (.int .i64 p.l.length) ∧ fr.get 4 = some (.slice (some ⟨H.len + 1, 0, none⟩) ((R + 1) * (p.l.length + 1)) ((R + 1) * (p.l.length + 1) + 1)) ∧ fr.get 5 = some (.int .i64 ((kk : Int) - 1)) ∧ Same (H.add (some (.cells (parC p) 0 true))) H1 ∧ H1.mine (H.len + 1) = some (ints .i64 pot, 1) ∧ PotF p.D R kk p.D.n pot) ?_ (R + 1) ?_
  rotate_left
  · refine ⟨R + 1, List.replicate ((R + 1) * (p.l.length + 1)) 0, rfl, by omega, ?_⟩
    simp only [↓yG, Nat.reduceEqDiff, ↓reduceIte, Int.natCast_add, Int.cast_ofNat_Int, Int.natCast_zero, true_and, and_true, Option.some.injEq, Value.int.injEq]
    exact ⟨by omega, hSa, hm0, hz⟩
  clear hSa hm0 hz e0
  rintro kk fr H1 ⟨_, pot, rfl, hkk, f1, f3, f4, f5, hS, hm, hF⟩ J hJ
  cases kk with
  | zero =>
    repeat' (first | (exfalso; omega) | refine zA ?_ | refine zB ?_ | refine zC ?_ | refine zD ?_ | refine zE ?_ | refine zF ?_ | refine zG ?_ | refine zH ?_ | refine zI ?_ | refine zJ ?_ | refine zK rfl ?_ | refine zL ?_ | refine zM ?_ | refine zN ?_ | refine zO ?_ | refine zP rfl ?_ | refine zQ ?_ | ((first | refine zR ?_ | refine zS ?_ | refine zT ?_ | skip); intro K k; simp (disch := (first | (simp only [yD2, beq_self_eq_true, Nat.reduceLT, Nat.reduceAdd]; done) | ((fail_if_success (apply Bool.eq_iff_iff.2)); first | omega | (simp only [yD2, beq_self_eq_true, Nat.reduceLT, Nat.reduceAdd] <;> omega)) | fail)) only [↓yS, yT, ↓reduceIte, Nat.reduceEqDiff, Nat.reduceAdd, Nat.reduceMul, reduceCtorEq, Int.reduceToNat, g39, f1, f3, f4, f5]; refine yC (k _ _ ?_); clear k K) | ((first | refine zU ?_ | refine zV ?_ | refine zW ?_); intro A B C D a b c d; simp only [↓yG, Nat.reduceEqDiff, ↓reduceIte, g39, f1, f3, f4, f5]; (first | refine zX (a ?_) | refine zY (b ?_) | refine zZ (fun hc => c ?_) (fun hc => d ?_)) <;> clear a b c d A B C D <;> try simp only [yL] at hc) | (refine yA ?_; intro A a; simp only [↓yG, Nat.reduceEqDiff, ↓reduceIte, g39, f1, f3, f4, f5]; refine yB (a ?_); clear a A) | (refine yD ?_; simp only [gresults, ↓yG, Nat.reduceEqDiff, ↓reduceIte, Option.bind_some, gld_1, gld_n, g39, f1, f3, f4, f5]; refine ⟨_, rfl, ?_⟩; simp only [gone]))
    refine hPost _ _ ⟨(Same.refl hw).add _ |>.trans hS, ?_, .inr (by show H.len ≤ H.len + 1; omega)⟩
    have hall := hF.all
    have hpl : pot.length = (R + 1) * (p.l.length + 1) := hF.1
    rw [hD] at hall
    rw [← hall, ← hpl]
    exact ⟨by rw [ints_length, Nat.mul_one], .inr ⟨H.len + 1, pot.length + 1, rfl, .inr rfl, hm⟩⟩
  | succ k =>
    repeat' (first | (exfalso; omega) | refine zA ?_ | refine zB ?_ | refine zC ?_ | refine zD ?_ | refine zE ?_ | refine zF ?_ | refine zG ?_ | refine zH ?_ | refine zI ?_ | refine zJ ?_ | refine zK rfl ?_ | refine zL ?_ | refine zM ?_ | refine zN ?_ | refine zO ?_ | refine zP rfl ?_ | refine zQ ?_ | ((first | refine zR ?_ | refine zS ?_ | refine zT ?_ | skip); intro K k; simp (disch := (first | (simp only [yD2, beq_self_eq_true, Nat.reduceLT, Nat.reduceAdd]; done) | ((fail_if_success (apply Bool.eq_iff_iff.2)); first | omega | (simp only [yD2, beq_self_eq_true, Nat.reduceLT, Nat.reduceAdd] <;> omega)) | fail)) only [↓yS, yT, ↓reduceIte, Nat.reduceEqDiff, Nat.reduceAdd, Nat.reduceMul, reduceCtorEq, Int.reduceToNat, g39, f1, f3, f4, f5]; refine yC (k _ _ ?_); clear k K) | ((first | refine zU ?_ | refine zV ?_ | refine zW ?_); intro A B C D a b c d; simp only [↓yG, Nat.reduceEqDiff, ↓reduceIte, g39, f1, f3, f4, f5]; (first | refine zX (a ?_) | refine zY (b ?_) | refine zZ (fun hc => c ?_) (fun hc => d ?_)) <;> clear a b c d A B C D <;> try simp only [yL] at hc) | (refine yA ?_; intro A a; simp only [↓yG, Nat.reduceEqDiff, ↓reduceIte, g39, f1, f3, f4, f5]; refine yB (a ?_); clear a A) | (refine yD ?_; simp only [gresults, ↓yG, Nat.reduceEqDiff, ↓reduceIte, Option.bind_some, gld_1, gld_n, g39, f1, f3, f4, f5]; refine ⟨_, rfl, ?_⟩; simp only [gone]))
    refine GW_loop (fun m fr H2 => ∃ (ii : Nat) (pot : List Int), m = ii ∧ ii ≤ p.l.length ∧ fr.get 1 = some (.pointer (some ⟨H.len, 0, none⟩)) ∧ fr.get 3 = some (.int .i64 p.l.length) ∧ fr.get 4 = some (.slice (some ⟨H.len + 1, 0, none⟩) ((R + 1) * (p.l.length + 1)) ((R + 1) * (p.l.length + 1) + 1)) ∧ fr.get 5 = some (.int .i64 k) ∧ fr.get 6 = some (.int .i64 ((ii : Int) - 1)) ∧ Same (H.add (some (.cells (parC p) 0 true))) H2 ∧ H2.mine (H.len + 1) = some (ints .i64 pot, 1) ∧ PotF p.D R (k + 1) ii pot) ?_ p.l.length ?_
    rotate_left
    · refine ⟨p.l.length, pot, rfl, Nat.le_refl _, ?_⟩
      have h5 : ((k + 1 : Nat) : Int) - 1 = k := by omega
      rw [h5] at f5
      simp only [↓yG, Nat.reduceEqDiff, ↓reduceIte, Int.natCast_add, Int.cast_ofNat_Int, Int.natCast_zero, true_and, and_true, Option.some.injEq, Value.int.injEq, f1, f3, f4, f5]
      exact ⟨hS, hm, hF⟩
    clear hS hm hF f1 f3 f4 f5
    rintro ii fr2 H2 ⟨_, pot, rfl, hii, f1, f3, f4, f5, f6, hS, hm, hF⟩ J2 hJ2
    cases ii with
    | zero =>
      repeat' (first | (exfalso; omega) | refine zA ?_ | refine zB ?_ | refine zC ?_ | refine zD ?_ | refine zE ?_ | refine zF ?_ | refine zG ?_ | refine zH ?_ | refine zI ?_ | refine zJ ?_ | refine zK rfl ?_ | refine zL ?_ | refine zM ?_ | refine zN ?_ | refine zO ?_ | refine zP rfl ?_ | refine zQ ?_ | ((first | refine zR ?_ | refine zS ?_ | refine zT ?_ | skip); intro K k; simp (disch := (first | (simp only [yD2, beq_self_eq_true, Nat.reduceLT, Nat.reduceAdd]; done) | ((fail_if_success (apply Bool.eq_iff_iff.2)); first | omega | (simp only [yD2, beq_self_eq_true, Nat.reduceLT, Nat.reduceAdd] <;> omega)) | fail)) only [↓yS, yT, ↓reduceIte, Nat.reduceEqDiff, Nat.reduceAdd, Nat.reduceMul, reduceCtorEq, Int.reduceToNat, g39, f1, f3, f4, f5, f6]; refine yC (k _ _ ?_); clear k K) | ((first | refine zU ?_ | refine zV ?_ | refine zW ?_); intro A B C D a b c d; simp only [↓yG, Nat.reduceEqDiff, ↓reduceIte, g39, f1, f3, f4, f5, f6]; (first | refine zX (a ?_) | refine zY (b ?_) | refine zZ (fun hc => c ?_) (fun hc => d ?_)) <;> clear a b c d A B C D <;> try simp only [yL] at hc) | (refine yA ?_; intro A a; simp only [↓yG, Nat.reduceEqDiff, ↓reduceIte, g39, f1, f3, f4, f5, f6]; refine yB (a ?_); clear a A) | (refine yD ?_; simp only [gresults, ↓yG, Nat.reduceEqDiff, ↓reduceIte, Option.bind_some, gld_1, gld_n, g39, f1, f3, f4, f5, f6]; refine ⟨_, rfl, ?_⟩; simp only [gone]))
      refine hJ _ _ ⟨k, by omega, k, pot, rfl, by omega, ?_⟩
      simp only [↓yG, Nat.reduceEqDiff, ↓reduceIte, Int.natCast_add, Int.cast_ofNat_Int, Int.natCast_zero, true_and, and_true, Option.some.injEq, Value.int.injEq, f1, f3, f4]
      first | exact ⟨hS, hm, hF.row⟩ | exact ⟨rfl, hS, hm, hF.row⟩
    | succ i =>
      have h6 : ((i + 1 : Nat) : Int) - 1 = i := by omega
      rw [h6] at f6
      have hPe := fun m j => P_ge hG m j
      have hPu := fun m j => P_ub hG m j
      repeat' (first | (exfalso; omega) | refine zA ?_ | refine zB ?_ | refine zC ?_ | refine zD ?_ | refine zE ?_ | refine zF ?_ | refine zG ?_ | refine zH ?_ | refine zI ?_ | refine zJ ?_ | refine zK rfl ?_ | refine zL ?_ | refine zM ?_ | refine zN ?_ | refine zO ?_ | refine zP rfl ?_ | refine zQ ?_ | ((first | refine zR ?_ | refine zS ?_ | refine zT ?_ | skip); intro K k; simp (disch := (first | (simp only [yD2, beq_self_eq_true, Nat.reduceLT, Nat.reduceAdd]; done) | ((fail_if_success (apply Bool.eq_iff_iff.2)); first | omega | (simp only [yD2, beq_self_eq_true, Nat.reduceLT, Nat.reduceAdd] <;> omega)) | fail)) only [↓yS, yT, ↓reduceIte, Nat.reduceEqDiff, Nat.reduceAdd, Nat.reduceMul, reduceCtorEq, Int.reduceToNat, g39, f1, f3, f4, f5, f6]; refine yC (k _ _ ?_); clear k K) | ((first | refine zU ?_ | refine zV ?_ | refine zW ?_); intro A B C D a b c d; simp only [↓yG, Nat.reduceEqDiff, ↓reduceIte, g39, f1, f3, f4, f5, f6]; (first | refine zX (a ?_) | refine zY (b ?_) | refine zZ (fun hc => c ?_) (fun hc => d ?_)) <;> clear a b c d A B C D <;> try simp only [yL] at hc) | (refine yA ?_; intro A a; simp only [↓yG, Nat.reduceEqDiff, ↓reduceIte, g39, f1, f3, f4, f5, f6]; refine yB (a ?_); clear a A) | (refine yD ?_; simp only [gresults, ↓yG, Nat.reduceEqDiff, ↓reduceIte, Option.bind_some, gld_1, gld_n, g39, f1, f3, f4, f5, f6]; refine ⟨_, rfl, ?_⟩; simp only [gone]))
      generalize hT : p.D.P (R - k) i = T
      have hTs : k < R → T = bst p.D (p.D.P (R - (k + 1))) i := fun h => by
        rw [← hT, show R - k = (R - (k + 1)) + 1 by omega, DD.P, if_neg (by rw [hD]; omega)]
      have hT0 : k = R → T = -1 := fun h => by
        subst h
        rw [← hT, Nat.sub_self, DD.P, if_neg (by rw [hD]; omega)]
      have hpl : pot.length = (R + 1) * (p.l.length + 1) := hF.1
      refine GW_loop (fun m fr H3 => ∃ (j : Nat) (acc : Int), m = p.l.length + 1 - j ∧ i < j ∧ j ≤ p.l.length + 1 ∧ fr.get 1 = some (.pointer (some ⟨H.len, 0, none⟩)) ∧ fr.get 3 = some (.int .i64 p.l.length) ∧ fr.get 4 = some (.slice (some ⟨H.len + 1, 0, none⟩) ((R + 1) * (p.l.length + 1)) ((R + 1) * (p.l.length + 1) + 1)) ∧ fr.get 5 = some (.int .i64 k) ∧ fr.get 6 = some (.int .i64 i) ∧ fr.get 7 = some (.int .i64 acc) ∧ fr.get 8 = some (.int .i64 j) ∧ Same (H.add (some (.cells (parC p) 0 true))) H3 ∧ H3.mine (H.len + 1) = some (ints .i64 pot, 1) ∧ (acc = -1 ∨ 0 ≤ acc) ∧ (k < R → T = bstF p.D (p.D.P (R - (k + 1))) i (p.l.length + 1 - j) j acc) ∧ (k = R → acc = T)) ?_ (p.l.length - i) ?_
      rotate_left
      · refine ⟨i + 1, -1, by omega, by omega, by omega, ?_⟩
        simp only [↓yG, Nat.reduceEqDiff, ↓reduceIte, Int.natCast_add, Int.cast_ofNat_Int, Int.natCast_zero, true_and, and_true, Option.some.injEq, Value.int.injEq, f1, f3, f4, f5, f6]
        refine ⟨hS, hm, .inl (by first | trivial | rfl), fun h => by rw [hTs h, bst, hD, show p.l.length + 1 - (i + 1) = p.l.length - i by omega], fun h => (hT0 h).symm⟩
      clear hS hm f1 f3 f4 f5 f6
      rintro m fr3 H3 ⟨j, acc, rfl, hij, hj, f1, f3, f4, f5, f6, f7, f8, hS, hm, hac, hbs, hkR⟩ J3 hJ3
      have hw3 := hS.wf
      have hio := mine_lt hw3 hm
      have ep3 := fun o => ep hS o
      have epn3 := epn hS
      have hmk := hmI k
      have hlt := hix k i (by omega) (by omega)
      have hxi : ((k * (p.l.length + 1) : Nat) : Int) + (i : Int) = ((k * (p.l.length + 1) + i : Nat) : Int) := by simp
      have hbk : 0 ≤ (k : Int) * ((p.l.length : Int) + 1) ∧ (k : Int) * ((p.l.length : Int) + 1) ≤ 100000 := by rw [hmk]; omega
      have hgset : gset (ints .i64 pot) (k * (p.l.length + 1) + i) (.int .i64 acc) = some (ints .i64 (pot.set (k * (p.l.length + 1) + i) acc)) := by
        rw [gset_ok (by rw [ints_length]; omega) rfl, ints_set]
      have hdone : ∀ {H' : GHeap}, Same (H.add (some (.cells (parC p) 0 true))) H' → H'.mine (H.len + 1) = some (ints .i64 pot, 1) → acc = T → Same (H.add (some (.cells (parC p) 0 true))) (H'.put (H.len + 1) (.cells (ints .i64 (pot.set (k * (p.l.length + 1) + i) acc)) 1 true)) ∧ (H'.put (H.len + 1) (.cells (ints .i64 (pot.set (k * (p.l.length + 1) + i) acc)) 1 true)).mine (H.len + 1) = some (ints .i64 (pot.set (k * (p.l.length + 1) + i) acc), 1) ∧ PotF p.D R (k + 1) i (pot.set (k * (p.l.length + 1) + i) acc) := fun h1 h2 h3 => by
        refine ⟨h1.put (by omega) (mine_lt h1.wf h2) _, mine_put_same (mine_obj h2).1, ?_⟩
        rw [h3, ← hT]
        exact hF.set (by omega) (by rw [hD]; omega)
      generalize hxx : k * (p.l.length + 1) + i = x at *
      by_cases hj1 : j ≤ p.l.length
      case neg =>
        have haT : acc = T := by
          rcases Nat.lt_or_ge k R with h | h
          · have := hbs h
            rw [show p.l.length + 1 - j = 0 by omega, bstF] at this
            exact this.symm
          · exact hkR (by omega)
        obtain ⟨d1, d2, d3⟩ := hdone hS hm haT
        repeat' (first | (exfalso; omega) | refine zA ?_ | refine zB ?_ | refine zC ?_ | refine zD ?_ | refine zE ?_ | refine zF ?_ | refine zG ?_ | refine zH ?_ | refine zI ?_ | refine zJ ?_ | refine zK rfl ?_ | refine zL ?_ | refine zM ?_ | refine zN ?_ | refine zO ?_ | refine zP rfl ?_ | refine zQ ?_ | ((first | refine zR ?_ | refine zS ?_ | refine zT ?_ | skip); intro K k; simp (disch := (first | (simp only [yD2, beq_self_eq_true, Nat.reduceLT, Nat.reduceAdd]; done) | ((fail_if_success (apply Bool.eq_iff_iff.2)); first | omega | (simp only [yD2, beq_self_eq_true, Nat.reduceLT, Nat.reduceAdd] <;> omega)) | fail)) only [↓yS, yT, ↓reduceIte, Nat.reduceEqDiff, Nat.reduceAdd, Nat.reduceMul, reduceCtorEq, Int.reduceToNat, g39, f1, f3, f4, f5, f6, f7, f8, hmk, hxi, hm, hgset]; refine yC (k _ _ ?_); clear k K) | ((first | refine zU ?_ | refine zV ?_ | refine zW ?_); intro A B C D a b c d; simp only [↓yG, Nat.reduceEqDiff, ↓reduceIte, g39, f1, f3, f4, f5, f6, f7, f8, hmk, hxi, hm, hgset]; (first | refine zX (a ?_) | refine zY (b ?_) | refine zZ (fun hc => c ?_) (fun hc => d ?_)) <;> clear a b c d A B C D <;> try simp only [yL] at hc) | (refine yA ?_; intro A a; simp only [↓yG, Nat.reduceEqDiff, ↓reduceIte, g39, f1, f3, f4, f5, f6, f7, f8, hmk, hxi, hm, hgset]; refine yB (a ?_); clear a A) | (refine yD ?_; simp only [gresults, ↓yG, Nat.reduceEqDiff, ↓reduceIte, Option.bind_some, gld_1, gld_n, g39, f1, f3, f4, f5, f6, f7, f8, hmk, hxi, hm, hgset]; refine ⟨_, rfl, ?_⟩; simp only [gone]))
        refine hJ2 _ _ ⟨i, by omega, i, pot.set x acc, rfl, by omega, ?_⟩
        simp only [↓yG, Nat.reduceEqDiff, ↓reduceIte, Int.natCast_add, Int.cast_ofNat_Int, Int.natCast_zero, true_and, and_true, Option.some.injEq, Value.int.injEq, f1, f3, f4, f5]
        exact ⟨d1, d2, d3⟩
      by_cases hkR1 : k < R
      case neg =>
        have haT := hkR (by omega)
        obtain ⟨d1, d2, d3⟩ := hdone hS hm haT
        repeat' (first | (exfalso; omega) | refine zA ?_ | refine zB ?_ | refine zC ?_ | refine zD ?_ | refine zE ?_ | refine zF ?_ | refine zG ?_ | refine zH ?_ | refine zI ?_ | refine zJ ?_ | refine zK rfl ?_ | refine zL ?_ | refine zM ?_ | refine zN ?_ | refine zO ?_ | refine zP rfl ?_ | refine zQ ?_ | ((first | refine zR ?_ | refine zS ?_ | refine zT ?_ | skip); intro K k; simp (disch := (first | (simp only [yD2, beq_self_eq_true, Nat.reduceLT, Nat.reduceAdd]; done) | ((fail_if_success (apply Bool.eq_iff_iff.2)); first | omega | (simp only [yD2, beq_self_eq_true, Nat.reduceLT, Nat.reduceAdd] <;> omega)) | fail)) only [↓yS, yT, ↓reduceIte, Nat.reduceEqDiff, Nat.reduceAdd, Nat.reduceMul, reduceCtorEq, Int.reduceToNat, g39, f1, f3, f4, f5, f6, f7, f8, ep3, hP2, hmk, hxi, hm, hgset]; refine yC (k _ _ ?_); clear k K) | ((first | refine zU ?_ | refine zV ?_ | refine zW ?_); intro A B C D a b c d; simp only [↓yG, Nat.reduceEqDiff, ↓reduceIte, g39, f1, f3, f4, f5, f6, f7, f8, ep3, hP2, hmk, hxi, hm, hgset]; (first | refine zX (a ?_) | refine zY (b ?_) | refine zZ (fun hc => c ?_) (fun hc => d ?_)) <;> clear a b c d A B C D <;> try simp only [yL] at hc) | (refine yA ?_; intro A a; simp only [↓yG, Nat.reduceEqDiff, ↓reduceIte, g39, f1, f3, f4, f5, f6, f7, f8, ep3, hP2, hmk, hxi, hm, hgset]; refine yB (a ?_); clear a A) | (refine yD ?_; simp only [gresults, ↓yG, Nat.reduceEqDiff, ↓reduceIte, Option.bind_some, gld_1, gld_n, g39, f1, f3, f4, f5, f6, f7, f8, ep3, hP2, hmk, hxi, hm, hgset]; refine ⟨_, rfl, ?_⟩; simp only [gone]))
        refine hJ2 _ _ ⟨i, by omega, i, pot.set x acc, rfl, by omega, ?_⟩
        simp only [↓yG, Nat.reduceEqDiff, ↓reduceIte, Int.natCast_add, Int.cast_ofNat_Int, Int.natCast_zero, true_and, and_true, Option.some.injEq, Value.int.injEq, f1, f3, f4, f5]
        exact ⟨d1, d2, d3⟩
      have hbs1 := hbs hkR1
      rw [show p.l.length + 1 - j = (p.l.length - j) + 1 by omega, bstF] at hbs1
      have hSH := hS1.trans hS
      have hk3 := hk.later hw hSH
      repeat' (first | (exfalso; omega) | refine zA ?_ | refine zB ?_ | refine zC ?_ | refine zD ?_ | refine zE ?_ | refine zF ?_ | refine zG ?_ | refine zH ?_ | refine zI ?_ | refine zJ ?_ | refine zK rfl ?_ | refine zL ?_ | refine zM ?_ | refine zN ?_ | refine zO ?_ | refine zP rfl ?_ | refine zQ ?_ | ((first | refine zR ?_ | refine zS ?_ | refine zT ?_ | skip); intro K k; simp (disch := (first | (simp only [yD2, beq_self_eq_true, Nat.reduceLT, Nat.reduceAdd]; done) | ((fail_if_success (apply Bool.eq_iff_iff.2)); first | omega | (simp only [yD2, beq_self_eq_true, Nat.reduceLT, Nat.reduceAdd] <;> omega)) | fail)) only [↓yS, yT, ↓reduceIte, Nat.reduceEqDiff, Nat.reduceAdd, Nat.reduceMul, reduceCtorEq, Int.reduceToNat, g39, f1, f3, f4, f5, f6, f7, f8, ep3, hP2, epn3]; refine yC (k _ _ ?_); clear k K) | ((first | refine zU ?_ | refine zV ?_ | refine zW ?_); intro A B C D a b c d; simp only [↓yG, Nat.reduceEqDiff, ↓reduceIte, g39, f1, f3, f4, f5, f6, f7, f8, ep3, hP2, epn3]; (first | refine zX (a ?_) | refine zY (b ?_) | refine zZ (fun hc => c ?_) (fun hc => d ?_)) <;> clear a b c d A B C D <;> try simp only [yL] at hc) | (refine yA ?_; intro A a; simp only [↓yG, Nat.reduceEqDiff, ↓reduceIte, g39, f1, f3, f4, f5, f6, f7, f8, ep3, hP2, epn3]; refine yB (a ?_); clear a A) | (refine yD ?_; simp only [gresults, ↓yG, Nat.reduceEqDiff, ↓reduceIte, Option.bind_some, gld_1, gld_n, g39, f1, f3, f4, f5, f6, f7, f8, ep3, hP2, epn3]; refine ⟨_, rfl, ?_⟩; simp only [gone]))
      intro K' hK'; refine G1_call (by simp only [gtarget, ↓GArg.ev, ↓evs, ↓Tr.get_set, Nat.reduceEqDiff, if_true, if_false, ↓reduceIte, Option.map_some, f1, f3, f4, f5, f6, f7, f8]; rfl) (rFits_ok (i := i) (j := j) hSH.wf hk3 hij hj1) fun r4 H4 hq => hK' _ _ ?_
      obtain ⟨rfl, hS4⟩ := hq
      have hm4 : H4.mine (H.len + 1) = some (ints .i64 pot, 1) := by rw [hS4.mine hio]; exact hm
      have hS14 := hS.trans hS4
      cases hfit : p.fit i j with
      | false =>
        rw [if_neg (by show ¬ p.fit i j = true; rw [hfit]; decide)] at hbs1
        obtain ⟨d1, d2, d3⟩ := hdone hS14 hm4 hbs1.symm
        repeat' (first | (exfalso; omega) | refine zA ?_ | refine zB ?_ | refine zC ?_ | refine zD ?_ | refine zE ?_ | refine zF ?_ | refine zG ?_ | refine zH ?_ | refine zI ?_ | refine zJ ?_ | refine zK rfl ?_ | refine zL ?_ | refine zM ?_ | refine zN ?_ | refine zO ?_ | refine zP rfl ?_ | refine zQ ?_ | ((first | refine zR ?_ | refine zS ?_ | refine zT ?_ | skip); intro K k; simp (disch := (first | (simp only [yD2, beq_self_eq_true, Nat.reduceLT, Nat.reduceAdd]; done) | ((fail_if_success (apply Bool.eq_iff_iff.2)); first | omega | (simp only [yD2, beq_self_eq_true, Nat.reduceLT, Nat.reduceAdd] <;> omega)) | fail)) only [↓yS, yT, ↓reduceIte, Nat.reduceEqDiff, Nat.reduceAdd, Nat.reduceMul, reduceCtorEq, Int.reduceToNat, g39, f1, f3, f4, f5, f6, f7, f8, hmk, hxi, hm4, hgset]; refine yC (k _ _ ?_); clear k K) | ((first | refine zU ?_ | refine zV ?_ | refine zW ?_); intro A B C D a b c d; simp only [↓yG, Nat.reduceEqDiff, ↓reduceIte, g39, f1, f3, f4, f5, f6, f7, f8, hmk, hxi, hm4, hgset]; (first | refine zX (a ?_) | refine zY (b ?_) | refine zZ (fun hc => c ?_) (fun hc => d ?_)) <;> clear a b c d A B C D <;> try simp only [yL] at hc) | (refine yA ?_; intro A a; simp only [↓yG, Nat.reduceEqDiff, ↓reduceIte, g39, f1, f3, f4, f5, f6, f7, f8, hmk, hxi, hm4, hgset]; refine yB (a ?_); clear a A) | (refine yD ?_; simp only [gresults, ↓yG, Nat.reduceEqDiff, ↓reduceIte, Option.bind_some, gld_1, gld_n, g39, f1, f3, f4, f5, f6, f7, f8, hmk, hxi, hm4, hgset]; refine ⟨_, rfl, ?_⟩; simp only [gone]))
        refine hJ2 _ _ ⟨i, by omega, i, pot.set x acc, rfl, by omega, ?_⟩
        simp only [↓yG, Nat.reduceEqDiff, ↓reduceIte, Int.natCast_add, Int.cast_ofNat_Int, Int.natCast_zero, true_and, and_true, Option.some.injEq, Value.int.injEq, f1, f3, f4, f5]
        exact ⟨d1, d2, d3⟩
      | true =>
        rw [if_pos (show p.D.fit i j = true from hfit)] at hbs1
        have hok : p.D.ok i j := ⟨hij, hj1, hfit⟩
        have hc1 : 0 ≤ p.row i j := hG.pos _ _ hok
        have hc2 : p.row i j ≤ 40000000 := hG.ub _ _ hok
        have hmk1 := hmI1 k
        have hlt2 := hix (k + 1) j (by omega) hj1
        have hyi : (((k + 1) * (p.l.length + 1) : Nat) : Int) + (j : Int) = (((k + 1) * (p.l.length + 1) + j : Nat) : Int) := by simp
        have hbk2 : 0 ≤ ((k : Int) + 1) * ((p.l.length : Int) + 1) ∧ ((k : Int) + 1) * ((p.l.length : Int) + 1) ≤ 100000 := by rw [hmk1]; omega
        have hval := hF.2 (k + 1) j (by omega) hj1 (.inl (Nat.le_refl _))
        rw [hD] at hval
        have er4 := fun o => mine_rd (o := o) hm4
        have hel : (ints .i64 pot)[(k + 1) * (p.l.length + 1) + j]? = some (.int .i64 (p.D.P (R - (k + 1)) j)) := by
          rw [ints_at (by omega), hval]
        have hg1 := hPe (R - (k + 1)) j
        have hg2 := hPu (R - (k + 1)) j
        have hg3 : ((R - (k + 1) : Nat) : Int) * 40000000 ≤ 4 * 40000000 := by omega
        unfold bst1 at hbs1
        have hrow' : p.D.row i j = p.row i j := rfl
        rw [hrow'] at hbs1
        generalize hyy : (k + 1) * (p.l.length + 1) + j = y at *
        generalize hrr : p.D.P (R - (k + 1)) j = rest at *
        have hnx : p.l.length + 1 - (j + 1) = p.l.length - j := by omega
        by_cases hr1 : rest = -1
        · rw [if_pos hr1] at hbs1
          repeat' (first | (exfalso; omega) | refine zA ?_ | refine zB ?_ | refine zC ?_ | refine zD ?_ | refine zE ?_ | refine zF ?_ | refine zG ?_ | refine zH ?_ | refine zI ?_ | refine zJ ?_ | refine zK rfl ?_ | refine zL ?_ | refine zM ?_ | refine zN ?_ | refine zO ?_ | refine zP rfl ?_ | refine zQ ?_ | ((first | refine zR ?_ | refine zS ?_ | refine zT ?_ | skip); intro K k; simp (disch := (first | (simp only [yD2, beq_self_eq_true, Nat.reduceLT, Nat.reduceAdd]; done) | ((fail_if_success (apply Bool.eq_iff_iff.2)); first | omega | (simp only [yD2, beq_self_eq_true, Nat.reduceLT, Nat.reduceAdd] <;> omega)) | fail)) only [↓yS, yT, ↓reduceIte, Nat.reduceEqDiff, Nat.reduceAdd, Nat.reduceMul, reduceCtorEq, Int.reduceToNat, g39, f1, f3, f4, f5, f6, f7, f8, hmk1, hyi, er4, hel]; refine yC (k _ _ ?_); clear k K) | ((first | refine zU ?_ | refine zV ?_ | refine zW ?_); intro A B C D a b c d; simp only [↓yG, Nat.reduceEqDiff, ↓reduceIte, g39, f1, f3, f4, f5, f6, f7, f8, hmk1, hyi, er4, hel]; (first | refine zX (a ?_) | refine zY (b ?_) | refine zZ (fun hc => c ?_) (fun hc => d ?_)) <;> clear a b c d A B C D <;> try simp only [yL] at hc) | (refine yA ?_; intro A a; simp only [↓yG, Nat.reduceEqDiff, ↓reduceIte, g39, f1, f3, f4, f5, f6, f7, f8, hmk1, hyi, er4, hel]; refine yB (a ?_); clear a A) | (refine yD ?_; simp only [gresults, ↓yG, Nat.reduceEqDiff, ↓reduceIte, Option.bind_some, gld_1, gld_n, g39, f1, f3, f4, f5, f6, f7, f8, hmk1, hyi, er4, hel]; refine ⟨_, rfl, ?_⟩; simp only [gone]))
          refine hJ3 _ _ ⟨p.l.length + 1 - (j + 1), by omega, j + 1, acc, rfl, by omega, by omega, ?_⟩
          simp only [↓yG, Nat.reduceEqDiff, ↓reduceIte, Int.natCast_add, Int.cast_ofNat_Int, Int.natCast_zero, true_and, and_true, Option.some.injEq, Value.int.injEq, f1, f3, f4, f5, f6, f7]
          exact ⟨hS14, hm4, hac, fun _ => by rw [hnx]; exact hbs1, hkR⟩
        · rw [if_neg hr1] at hbs1
          have epn4 := epn hS14
          have hSH4 := hS1.trans hS14
          repeat' (first | (exfalso; omega) | refine zA ?_ | refine zB ?_ | refine zC ?_ | refine zD ?_ | refine zE ?_ | refine zF ?_ | refine zG ?_ | refine zH ?_ | refine zI ?_ | refine zJ ?_ | refine zK rfl ?_ | refine zL ?_ | refine zM ?_ | refine zN ?_ | refine zO ?_ | refine zP rfl ?_ | refine zQ ?_ | ((first | refine zR ?_ | refine zS ?_ | refine zT ?_ | skip); intro K k; simp (disch := (first | (simp only [yD2, beq_self_eq_true, Nat.reduceLT, Nat.reduceAdd]; done) | ((fail_if_success (apply Bool.eq_iff_iff.2)); first | omega | (simp only [yD2, beq_self_eq_true, Nat.reduceLT, Nat.reduceAdd] <;> omega)) | fail)) only [↓yS, yT, ↓reduceIte, Nat.reduceEqDiff, Nat.reduceAdd, Nat.reduceMul, reduceCtorEq, Int.reduceToNat, g39, f1, f3, f4, f5, f6, f7, f8, hmk1, hyi, er4, hel, epn4]; refine yC (k _ _ ?_); clear k K) | ((first | refine zU ?_ | refine zV ?_ | refine zW ?_); intro A B C D a b c d; simp only [↓yG, Nat.reduceEqDiff, ↓reduceIte, g39, f1, f3, f4, f5, f6, f7, f8, hmk1, hyi, er4, hel, epn4]; (first | refine zX (a ?_) | refine zY (b ?_) | refine zZ (fun hc => c ?_) (fun hc => d ?_)) <;> clear a b c d A B C D <;> try simp only [yL] at hc) | (refine yA ?_; intro A a; simp only [↓yG, Nat.reduceEqDiff, ↓reduceIte, g39, f1, f3, f4, f5, f6, f7, f8, hmk1, hyi, er4, hel, epn4]; refine yB (a ?_); clear a A) | (refine yD ?_; simp only [gresults, ↓yG, Nat.reduceEqDiff, ↓reduceIte, Option.bind_some, gld_1, gld_n, g39, f1, f3, f4, f5, f6, f7, f8, hmk1, hyi, er4, hel, epn4]; refine ⟨_, rfl, ?_⟩; simp only [gone]))
          refine Gw_s fun K' hK' => G1_call (by simp only [gtarget, ↓GArg.ev, ↓evs, ↓Tr.get_set, Nat.reduceEqDiff, if_true, if_false, ↓reduceIte, Option.map_some, f1, f3, f4, f5, f6, f7, f8]; rfl) (rrow_cost (i := i) (j := j) hSH4.wf (hk.later hw hSH4) hij hj1) fun r5 H5 hq => hK' _ _ ?_
          obtain ⟨rfl, hS5⟩ := hq
          have hm5 : H5.mine (H.len + 1) = some (ints .i64 pot, 1) := by rw [hS5.mine (mine_lt hS14.wf hm4)]; exact hm4
          have hS15 := hS14.trans hS5
          by_cases hup : acc = -1 ∨ p.row i j + rest < acc
          · rw [if_pos hup] at hbs1
            have hup2 : acc < 0 ∨ (¬ acc < 0 ∧ p.row i j + rest < acc) := by omega
            rcases hup2 with h | h
            all_goals
              repeat' (first | (exfalso; omega) | refine zA ?_ | refine zB ?_ | refine zC ?_ | refine zD ?_ | refine zE ?_ | refine zF ?_ | refine zG ?_ | refine zH ?_ | refine zI ?_ | refine zJ ?_ | refine zK rfl ?_ | refine zL ?_ | refine zM ?_ | refine zN ?_ | refine zO ?_ | refine zP rfl ?_ | refine zQ ?_ | ((first | refine zR ?_ | refine zS ?_ | refine zT ?_ | skip); intro K k; simp (disch := (first | (simp only [yD2, beq_self_eq_true, Nat.reduceLT, Nat.reduceAdd]; done) | ((fail_if_success (apply Bool.eq_iff_iff.2)); first | omega | (simp only [yD2, beq_self_eq_true, Nat.reduceLT, Nat.reduceAdd] <;> omega)) | fail)) only [↓yS, yT, ↓reduceIte, Nat.reduceEqDiff, Nat.reduceAdd, Nat.reduceMul, reduceCtorEq, Int.reduceToNat, g39, f1, f3, f4, f5, f6, f7, f8]; refine yC (k _ _ ?_); clear k K) | ((first | refine zU ?_ | refine zV ?_ | refine zW ?_); intro A B C D a b c d; simp only [↓yG, Nat.reduceEqDiff, ↓reduceIte, g39, f1, f3, f4, f5, f6, f7, f8]; (first | refine zX (a ?_) | refine zY (b ?_) | refine zZ (fun hc => c ?_) (fun hc => d ?_)) <;> clear a b c d A B C D <;> try simp only [yL] at hc) | (refine yA ?_; intro A a; simp only [↓yG, Nat.reduceEqDiff, ↓reduceIte, g39, f1, f3, f4, f5, f6, f7, f8]; refine yB (a ?_); clear a A) | (refine yD ?_; simp only [gresults, ↓yG, Nat.reduceEqDiff, ↓reduceIte, Option.bind_some, gld_1, gld_n, g39, f1, f3, f4, f5, f6, f7, f8]; refine ⟨_, rfl, ?_⟩; simp only [gone]))
            all_goals
              refine hJ3 _ _ ⟨p.l.length + 1 - (j + 1), by omega, j + 1, p.row i j + rest, rfl, by omega, by omega, ?_⟩
              simp only [↓yG, Nat.reduceEqDiff, ↓reduceIte, Int.natCast_add, Int.cast_ofNat_Int, Int.natCast_zero, true_and, and_true, Option.some.injEq, Value.int.injEq, f1, f3, f4, f5, f6, f7]
            all_goals exact ⟨hS15, hm5, .inr (by omega), fun _ => by rw [hnx]; exact hbs1, fun h => by omega⟩
          · rw [if_neg hup] at hbs1
            repeat' (first | (exfalso; omega) | refine zA ?_ | refine zB ?_ | refine zC ?_ | refine zD ?_ | refine zE ?_ | refine zF ?_ | refine zG ?_ | refine zH ?_ | refine zI ?_ | refine zJ ?_ | refine zK rfl ?_ | refine zL ?_ | refine zM ?_ | refine zN ?_ | refine zO ?_ | refine zP rfl ?_ | refine zQ ?_ | ((first | refine zR ?_ | refine zS ?_ | refine zT ?_ | skip); intro K k; simp (disch := (first | (simp only [yD2, beq_self_eq_true, Nat.reduceLT, Nat.reduceAdd]; done) | ((fail_if_success (apply Bool.eq_iff_iff.2)); first | omega | (simp only [yD2, beq_self_eq_true, Nat.reduceLT, Nat.reduceAdd] <;> omega)) | fail)) only [↓yS, yT, ↓reduceIte, Nat.reduceEqDiff, Nat.reduceAdd, Nat.reduceMul, reduceCtorEq, Int.reduceToNat, g39, f1, f3, f4, f5, f6, f7, f8]; refine yC (k _ _ ?_); clear k K) | ((first | refine zU ?_ | refine zV ?_ | refine zW ?_); intro A B C D a b c d; simp only [↓yG, Nat.reduceEqDiff, ↓reduceIte, g39, f1, f3, f4, f5, f6, f7, f8]; (first | refine zX (a ?_) | refine zY (b ?_) | refine zZ (fun hc => c ?_) (fun hc => d ?_)) <;> clear a b c d A B C D <;> try simp only [yL] at hc) | (refine yA ?_; intro A a; simp only [↓yG, Nat.reduceEqDiff, ↓reduceIte, g39, f1, f3, f4, f5, f6, f7, f8]; refine yB (a ?_); clear a A) | (refine yD ?_; simp only [gresults, ↓yG, Nat.reduceEqDiff, ↓reduceIte, Option.bind_some, gld_1, gld_n, g39, f1, f3, f4, f5, f6, f7, f8]; refine ⟨_, rfl, ?_⟩; simp only [gone]))
            refine hJ3 _ _ ⟨p.l.length + 1 - (j + 1), by omega, j + 1, acc, rfl, by omega, by omega, ?_⟩
            simp only [↓yG, Nat.reduceEqDiff, ↓reduceIte, Int.natCast_add, Int.cast_ofNat_Int, Int.natCast_zero, true_and, and_true, Option.some.injEq, Value.int.injEq, f1, f3, f4, f5, f6, f7]
            exact ⟨hS15, hm5, hac, fun _ => by rw [hnx]; exact hbs1, hkR⟩
end Go.Gh
