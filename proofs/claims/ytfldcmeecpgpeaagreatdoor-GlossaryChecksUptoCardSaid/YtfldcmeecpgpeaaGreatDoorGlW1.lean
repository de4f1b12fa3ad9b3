/-
  glossary, walked: phrases; what a text contains; the reference's too.
-/
import Derived.Test.YtfldcmeecpgpeaaGreatDoorGlF
namespace Go.Gh
set_option linter.unusedSimpArgs false
set_option linter.unusedVariables false
set_option maxHeartbeats 4000000
open Go.RowKit Go.Lib
set_option maxRecDepth 4000
theorem strB_at {l : List UInt8} {k : IntKind} {j : Nat} (h : j < l.length) : gix none (.string (strB l)) (.int k j) = some (.int .u8 (l[j]!.toNat : Nat)) := by
  have hs := strB_size l
  simp only [gix, Int.toNat_natCast]
  rw [if_pos (by omega)]
  have h4 : (strB l)[j]? = some l[j]! := by
    rw [getElem?_pos (strB l) j (by omega), getElem!_pos l j h]
    simp [strB, ByteArray.getElem_eq_getElem_data]
  rw [h4]; rfl
theorem strB_ext (l : List UInt8) (a b : Nat) : (strB l).extract a b = strB ((l.take b).drop a) := by
  apply ByteArray.ext
  rw [ByteArray.data_extract]
  apply Array.ext'
  simp [strB, List.extract_eq_take_drop, List.drop_take]
theorem sl_mid {H : GHeap} {l : List UInt8} {k k' : IntKind} {a b : Int} (h0 : 0 ≤ a) (h1 : a ≤ b) (h2 : b ≤ l.length) : gslice .str H (.string (strB l)) (some (.int k a)) (some (.int k' b)) none = some (.string (strB ((l.take b.toNat).drop a.toNat))) := by
  have hs := strB_size l
  simp only [gslice, gbounds]
  rw [if_pos ⟨by omega, by rw [hs]; exact h2⟩]
  simp only
  rw [if_pos ⟨h0, by omega⟩]
  simp [strB_ext]
theorem sl_suf {H : GHeap} {l : List UInt8} {k : IntKind} {a : Int} (h0 : 0 ≤ a) (h2 : a ≤ l.length) : gslice .str H (.string (strB l)) (some (.int k a)) none none = some (.string (strB (l.drop a.toNat))) := by
  have hs := strB_size l
  simp only [gslice, gbounds]
  rw [if_pos ⟨h0, by rw [hs]; omega⟩]
  simp only [Option.map_some]
  rw [strB_ext, hs, List.take_length]
theorem eqE {e : Option EqK} {a : List UInt8} : gbin .eql e (.string (strB a)) (.string ⟨#[]⟩) = some (.bool (decide (a = []))) := gb_eqlB (b := [])
theorem neE {e : Option EqK} {a : List UInt8} : gbin .neq e (.string (strB a)) (.string ⟨#[]⟩) = some (.bool (decide (¬ a = []))) := gb_neqB (b := [])
theorem byte_eq {b : UInt8} {n : Nat} (hn : n < 256) : (((b.toNat : Nat) : Int) = (n : Int)) = (b = UInt8.ofNat n) := by
  apply propext
  constructor
  · intro h
    have : b.toNat = n := by omega
    rw [← this]; simp
  · intro h; rw [h]; simp [Nat.mod_eq_of_lt hn]
theorem by32 {b : UInt8} : (((b.toNat : Nat) : Int) = 32) = (b = 32) := byte_eq (n := 32) (by decide)
theorem cont_ok {l : List UInt8} (hl : l.length ≤ 16777216) {B : ByteArray} (hB : B = strB [32, 32]) (H : GHeap) : gev G 42 [.string (strB l), .string B] H = some (.bool (dblF l), H) := by
  subst hB
  refine gev_lib (f := 42) rfl rfl ?_ rfl
  simp only [runContains]
  rw [if_pos (by rw [strB_size]; omega), strB_data, strB_data, contains_dbl]
theorem phrase_ok {l : List UInt8} (hl : l.length ≤ 16777216) (H : GHeap) : gev G 15 [.string (strB l)] H = some (.bool (phrB l), H) := by
  refine gev_GWP (f := 15) rfl rfl rfl (fun Post hPost => ?_) H
  unfold phrB at hPost
  simp only [frameOf, Nat.reduceAdd]
  repeat' (first | refine zn ?_ | refine zK rfl ?_ | refine zP rfl ?_ | ((first | refine zm ?_ | skip); intro _; intros; simp (disch := first | exact zd | fail) only [↓yS, yT, gresults, gone, ↓reduceIte, Nat.reduceEqDiff, Nat.reduceAdd, Nat.reduceMul, reduceCtorEq, Int.reduceToNat, g15]; first | (rename_i K k; (first | refine yC (k _ _ ?_) | refine zg (k _ ?_)); clear k K) | (rename_i A B C D a b c d; (first | refine zx (a ?_) | refine zy (b ?_) | refine zz (fun hc => c ?_) (fun hc => d ?_) | refine zv (b ?_) | refine zw (a ?_)) <;> clear a b c d A B C D <;> try simp only [yL] at hc)) | refine zA ?_ | refine zB ?_ | refine zF ?_)
  refine Gw_s fun K' hK' => G1_call (by simp only [gtarget, ↓GArg.ev, ↓evs, ↓Tr.get_set, Nat.reduceEqDiff, if_true, if_false, ↓reduceIte, Option.map_some]; rfl) (one_of (valid_ok (s := strB l) (by rw [strB_size]; omega) _)) fun r1 H1 hq => hK' _ _ ?_
  obtain ⟨rfl, rfl⟩ := hq
  cases hv : vldB (strB l) with
  | false =>
    rw [hv] at hPost
    simp only [Bool.false_and] at hPost
    repeat' (first | (exfalso; omega) | refine zn ?_ | refine zK rfl ?_ | refine zP rfl ?_ | ((first | refine zm ?_ | skip); intro _; intros; simp (disch := first | exact zd | fail) only [↓yS, yT, gresults, gone, ↓reduceIte, Nat.reduceEqDiff, Nat.reduceAdd, Nat.reduceMul, reduceCtorEq, Int.reduceToNat, g15]; first | (rename_i K k; (first | refine yC (k _ _ ?_) | refine zg (k _ ?_)); clear k K) | (rename_i A B C D a b c d; (first | refine zx (a ?_) | refine zy (b ?_) | refine zz (fun hc => c ?_) (fun hc => d ?_) | refine zv (b ?_) | refine zw (a ?_)) <;> clear a b c d A B C D <;> try simp only [yL] at hc)) | refine zA ?_ | refine zB ?_ | refine zF ?_)
    exact hPost _
  | true =>
  rw [hv] at hPost
  by_cases h0 : l = []
  · have h0' := eq_true h0
    have hb : (l == []) = true := by simp [h0]
    rw [hb] at hPost
    simp only [Bool.not_true, Bool.and_false, Bool.false_and] at hPost
    repeat' (first | (exfalso; omega) | refine zn ?_ | refine zK rfl ?_ | refine zP rfl ?_ | ((first | refine zm ?_ | skip); intro _; intros; simp (disch := first | exact zd | fail) only [↓yS, yT, gresults, gone, ↓reduceIte, Nat.reduceEqDiff, Nat.reduceAdd, Nat.reduceMul, reduceCtorEq, Int.reduceToNat, g15, neE, h0', not_true_eq_false, decide_false]; first | (rename_i K k; (first | refine yC (k _ _ ?_) | refine zg (k _ ?_)); clear k K) | (rename_i A B C D a b c d; (first | refine zx (a ?_) | refine zy (b ?_) | refine zz (fun hc => c ?_) (fun hc => d ?_) | refine zv (b ?_) | refine zw (a ?_)) <;> clear a b c d A B C D <;> try simp only [yL] at hc)) | refine zA ?_ | refine zB ?_ | refine zF ?_)
    exact hPost _
  have h0' := eq_false h0
  have hb : (l == []) = false := by simp [h0]
  rw [hb] at hPost
  have hlp := List.length_pos_iff.2 h0
  have hat0 : ∀ k, gix none (.string (strB l)) (.int k 0) = some (.int .u8 (l[0]!.toNat : Nat)) := fun k => strB_at (k := k) (j := 0) hlp
  have hatn : ∀ k, gix none (.string (strB l)) (.int k ((l.length : Int) - 1)) = some (.int .u8 (l[l.length - 1]!.toNat : Nat)) := fun k => by
    have h1 : (l.length : Int) - 1 = ((l.length - 1 : Nat) : Int) := by omega
    rw [h1]; exact strB_at (by omega)
  have hls := strB_size l
  by_cases h1 : l[0]! = 32
  · have h1' := eq_true h1
    have hb1 : (l[0]! == 32) = true := by simp [h1]
    rw [hb1] at hPost
    simp only [Bool.not_true, Bool.and_false, Bool.false_and] at hPost
    repeat' (first | (exfalso; omega) | refine zn ?_ | refine zK rfl ?_ | refine zP rfl ?_ | ((first | refine zm ?_ | skip); intro _; intros; simp (disch := first | exact zd | fail) only [↓yS, yT, gresults, gone, ↓reduceIte, Nat.reduceEqDiff, Nat.reduceAdd, Nat.reduceMul, reduceCtorEq, Int.reduceToNat, g15, neE, h0', not_false_eq_true, decide_true, hat0, by32, h1', not_true_eq_false, decide_false]; first | (rename_i K k; (first | refine yC (k _ _ ?_) | refine zg (k _ ?_)); clear k K) | (rename_i A B C D a b c d; (first | refine zx (a ?_) | refine zy (b ?_) | refine zz (fun hc => c ?_) (fun hc => d ?_) | refine zv (b ?_) | refine zw (a ?_)) <;> clear a b c d A B C D <;> try simp only [yL] at hc)) | refine zA ?_ | refine zB ?_ | refine zF ?_)
    exact hPost _
  have h1' := eq_false h1
  have hb1 : (l[0]! == 32) = false := beq_eq_false_iff_ne.2 h1
  rw [hb1] at hPost
  by_cases h2 : l[l.length - 1]! = 32
  · have h2' := eq_true h2
    have hb2 : (l[l.length - 1]! == 32) = true := by simp [h2]
    rw [hb2] at hPost
    simp only [Bool.not_true, Bool.and_false, Bool.false_and] at hPost
    repeat' (first | (exfalso; omega) | refine zn ?_ | refine zK rfl ?_ | refine zP rfl ?_ | ((first | refine zm ?_ | skip); intro _; intros; simp (disch := first | exact zd | fail) only [↓yS, yT, gresults, gone, ↓reduceIte, Nat.reduceEqDiff, Nat.reduceAdd, Nat.reduceMul, reduceCtorEq, Int.reduceToNat, g15, neE, h0', not_false_eq_true, decide_true, hat0, by32, h1', not_true_eq_false, decide_false, hls, hatn, h2']; first | (rename_i K k; (first | refine yC (k _ _ ?_) | refine zg (k _ ?_)); clear k K) | (rename_i A B C D a b c d; (first | refine zx (a ?_) | refine zy (b ?_) | refine zz (fun hc => c ?_) (fun hc => d ?_) | refine zv (b ?_) | refine zw (a ?_)) <;> clear a b c d A B C D <;> try simp only [yL] at hc)) | refine zA ?_ | refine zB ?_ | refine zF ?_)
    exact hPost _
  have h2' := eq_false h2
  have hb2 : (l[l.length - 1]! == 32) = false := beq_eq_false_iff_ne.2 h2
  rw [hb2] at hPost
  repeat' (first | (exfalso; omega) | refine zn ?_ | refine zK rfl ?_ | refine zP rfl ?_ | ((first | refine zm ?_ | skip); intro _; intros; simp (disch := first | exact zd | fail) only [↓yS, yT, gresults, gone, ↓reduceIte, Nat.reduceEqDiff, Nat.reduceAdd, Nat.reduceMul, reduceCtorEq, Int.reduceToNat, g15, neE, h0', not_false_eq_true, decide_true, hat0, by32, h1', not_true_eq_false, decide_false, hls, hatn, h2']; first | (rename_i K k; (first | refine yC (k _ _ ?_) | refine zg (k _ ?_)); clear k K) | (rename_i A B C D a b c d; (first | refine zx (a ?_) | refine zy (b ?_) | refine zz (fun hc => c ?_) (fun hc => d ?_) | refine zv (b ?_) | refine zw (a ?_)) <;> clear a b c d A B C D <;> try simp only [yL] at hc)) | refine zA ?_ | refine zB ?_ | refine zF ?_)
  intro K' hK'; refine G1_call (by simp only [gtarget, ↓GArg.ev, ↓evs, ↓Tr.get_set, Nat.reduceEqDiff, if_true, if_false, ↓reduceIte, Option.map_some]; rfl) (one_of (cont_ok hl (by rfl) _)) fun r2 H2 hq => hK' _ _ ?_
  obtain ⟨rfl, rfl⟩ := hq
  cases hd : dblF l with
  | true =>
    rw [hd] at hPost
    simp only [Bool.not_true, Bool.and_false, Bool.false_and] at hPost
    repeat' (first | (exfalso; omega) | refine zn ?_ | refine zK rfl ?_ | refine zP rfl ?_ | ((first | refine zm ?_ | skip); intro _; intros; simp (disch := first | exact zd | fail) only [↓yS, yT, gresults, gone, ↓reduceIte, Nat.reduceEqDiff, Nat.reduceAdd, Nat.reduceMul, reduceCtorEq, Int.reduceToNat, g15]; first | (rename_i K k; (first | refine yC (k _ _ ?_) | refine zg (k _ ?_)); clear k K) | (rename_i A B C D a b c d; (first | refine zx (a ?_) | refine zy (b ?_) | refine zz (fun hc => c ?_) (fun hc => d ?_) | refine zv (b ?_) | refine zw (a ?_)) <;> clear a b c d A B C D <;> try simp only [yL] at hc)) | refine zA ?_ | refine zB ?_ | refine zF ?_)
    exact hPost _
  | false =>
    rw [hd] at hPost
    simp only [Bool.not_false, Bool.and_true, Bool.true_and] at hPost
    have hlc : ((l.length : Int) ≤ 400) = (l.length ≤ 400) := by apply propext; omega
    repeat' (first | (exfalso; omega) | refine zn ?_ | refine zK rfl ?_ | refine zP rfl ?_ | ((first | refine zm ?_ | skip); intro _; intros; simp (disch := first | exact zd | fail) only [↓yS, yT, gresults, gone, ↓reduceIte, Nat.reduceEqDiff, Nat.reduceAdd, Nat.reduceMul, reduceCtorEq, Int.reduceToNat, g15, hls]; first | (rename_i K k; (first | refine yC (k _ _ ?_) | refine zg (k _ ?_)); clear k K) | (rename_i A B C D a b c d; (first | refine zx (a ?_) | refine zy (b ?_) | refine zz (fun hc => c ?_) (fun hc => d ?_) | refine zv (b ?_) | refine zw (a ?_)) <;> clear a b c d A B C D <;> try simp only [yL] at hc)) | refine zA ?_ | refine zB ?_ | refine zF ?_)
    all_goals first
      | (rw [show decide ((l.length : Int) ≤ 400) = decide (l.length ≤ 400) from by simp only [hlc]]; exact hPost _)
theorem rphrase_ok {l : List UInt8} (hl : l.length ≤ 16777216) (H : GHeap) : gev G 20 [.string (strB l)] H = some (.bool (phrB l), H) := by
  refine gev_GWP (f := 20) rfl rfl rfl (fun Post hPost => ?_) H
  unfold phrB at hPost
  simp only [frameOf, Nat.reduceAdd]
  repeat' (first | refine zn ?_ | refine zK rfl ?_ | refine zP rfl ?_ | ((first | refine zm ?_ | skip); intro _; intros; simp (disch := first | exact zd | fail) only [↓yS, yT, gresults, gone, ↓reduceIte, Nat.reduceEqDiff, Nat.reduceAdd, Nat.reduceMul, reduceCtorEq, Int.reduceToNat, g20]; first | (rename_i K k; (first | refine yC (k _ _ ?_) | refine zg (k _ ?_)); clear k K) | (rename_i A B C D a b c d; (first | refine zx (a ?_) | refine zy (b ?_) | refine zz (fun hc => c ?_) (fun hc => d ?_) | refine zv (b ?_) | refine zw (a ?_)) <;> clear a b c d A B C D <;> try simp only [yL] at hc)) | refine zA ?_ | refine zB ?_ | refine zF ?_)
  refine Gw_s fun K' hK' => G1_call (by simp only [gtarget, ↓GArg.ev, ↓evs, ↓Tr.get_set, Nat.reduceEqDiff, if_true, if_false, ↓reduceIte, Option.map_some]; rfl) (one_of (rvalid_ok (s := strB l) (by rw [strB_size]; omega) _)) fun r1 H1 hq => hK' _ _ ?_
  obtain ⟨rfl, rfl⟩ := hq
  cases hv : vldB (strB l) with
  | false =>
    rw [hv] at hPost
    simp only [Bool.false_and] at hPost
    repeat' (first | (exfalso; omega) | refine zn ?_ | refine zK rfl ?_ | refine zP rfl ?_ | ((first | refine zm ?_ | skip); intro _; intros; simp (disch := first | exact zd | fail) only [↓yS, yT, gresults, gone, ↓reduceIte, Nat.reduceEqDiff, Nat.reduceAdd, Nat.reduceMul, reduceCtorEq, Int.reduceToNat, g20]; first | (rename_i K k; (first | refine yC (k _ _ ?_) | refine zg (k _ ?_)); clear k K) | (rename_i A B C D a b c d; (first | refine zx (a ?_) | refine zy (b ?_) | refine zz (fun hc => c ?_) (fun hc => d ?_) | refine zv (b ?_) | refine zw (a ?_)) <;> clear a b c d A B C D <;> try simp only [yL] at hc)) | refine zA ?_ | refine zB ?_ | refine zF ?_)
    exact hPost _
  | true =>
  rw [hv] at hPost
  by_cases h0 : l = []
  · have h0' := eq_true h0
    have hb : (l == []) = true := by simp [h0]
    rw [hb] at hPost
    simp only [Bool.not_true, Bool.and_false, Bool.false_and] at hPost
    repeat' (first | (exfalso; omega) | refine zn ?_ | refine zK rfl ?_ | refine zP rfl ?_ | ((first | refine zm ?_ | skip); intro _; intros; simp (disch := first | exact zd | fail) only [↓yS, yT, gresults, gone, ↓reduceIte, Nat.reduceEqDiff, Nat.reduceAdd, Nat.reduceMul, reduceCtorEq, Int.reduceToNat, g20, eqE, h0', decide_true]; first | (rename_i K k; (first | refine yC (k _ _ ?_) | refine zg (k _ ?_)); clear k K) | (rename_i A B C D a b c d; (first | refine zx (a ?_) | refine zy (b ?_) | refine zz (fun hc => c ?_) (fun hc => d ?_) | refine zv (b ?_) | refine zw (a ?_)) <;> clear a b c d A B C D <;> try simp only [yL] at hc)) | refine zA ?_ | refine zB ?_ | refine zF ?_)
    exact hPost _
  have h0' := eq_false h0
  have hb : (l == []) = false := by simp [h0]
  rw [hb] at hPost
  have hlp := List.length_pos_iff.2 h0
  have hat0 : ∀ k, gix none (.string (strB l)) (.int k 0) = some (.int .u8 (l[0]!.toNat : Nat)) := fun k => strB_at (k := k) (j := 0) hlp
  have hatn : ∀ k, gix none (.string (strB l)) (.int k ((l.length : Int) - 1)) = some (.int .u8 (l[l.length - 1]!.toNat : Nat)) := fun k => by
    have h1 : (l.length : Int) - 1 = ((l.length - 1 : Nat) : Int) := by omega
    rw [h1]; exact strB_at (by omega)
  have hls := strB_size l
  by_cases h4 : 400 < l.length
  · have hd : decide (l.length ≤ 400) = false := decide_eq_false (by omega)
    rw [hd, Bool.and_false] at hPost
    repeat' (first | (exfalso; omega) | refine zn ?_ | refine zK rfl ?_ | refine zP rfl ?_ | ((first | refine zm ?_ | skip); intro _; intros; simp (disch := first | exact zd | fail) only [↓yS, yT, gresults, gone, ↓reduceIte, Nat.reduceEqDiff, Nat.reduceAdd, Nat.reduceMul, reduceCtorEq, Int.reduceToNat, g20, eqE, h0', decide_false, hls]; first | (rename_i K k; (first | refine yC (k _ _ ?_) | refine zg (k _ ?_)); clear k K) | (rename_i A B C D a b c d; (first | refine zx (a ?_) | refine zy (b ?_) | refine zz (fun hc => c ?_) (fun hc => d ?_) | refine zv (b ?_) | refine zw (a ?_)) <;> clear a b c d A B C D <;> try simp only [yL] at hc)) | refine zA ?_ | refine zB ?_ | refine zF ?_)
    exact hPost _
  have hd : decide (l.length ≤ 400) = true := decide_eq_true (by omega)
  rw [hd, Bool.and_true] at hPost
  by_cases h1 : l[0]! = 32
  · have h1' := eq_true h1
    have hb1 : (l[0]! == 32) = true := by simp [h1]
    rw [hb1] at hPost
    simp only [Bool.not_true, Bool.and_false, Bool.false_and] at hPost
    repeat' (first | (exfalso; omega) | refine zn ?_ | refine zK rfl ?_ | refine zP rfl ?_ | ((first | refine zm ?_ | skip); intro _; intros; simp (disch := first | exact zd | fail) only [↓yS, yT, gresults, gone, ↓reduceIte, Nat.reduceEqDiff, Nat.reduceAdd, Nat.reduceMul, reduceCtorEq, Int.reduceToNat, g20, eqE, h0', decide_false, hls, hat0, by32, h1', decide_true]; first | (rename_i K k; (first | refine yC (k _ _ ?_) | refine zg (k _ ?_)); clear k K) | (rename_i A B C D a b c d; (first | refine zx (a ?_) | refine zy (b ?_) | refine zz (fun hc => c ?_) (fun hc => d ?_) | refine zv (b ?_) | refine zw (a ?_)) <;> clear a b c d A B C D <;> try simp only [yL] at hc)) | refine zA ?_ | refine zB ?_ | refine zF ?_)
    exact hPost _
  have h1' := eq_false h1
  have hb1 : (l[0]! == 32) = false := beq_eq_false_iff_ne.2 h1
  rw [hb1] at hPost
  by_cases h2 : l[l.length - 1]! = 32
  · have h2' := eq_true h2
    have hb2 : (l[l.length - 1]! == 32) = true := by simp [h2]
    rw [hb2] at hPost
    simp only [Bool.not_true, Bool.and_false, Bool.false_and] at hPost
    repeat' (first | (exfalso; omega) | refine zn ?_ | refine zK rfl ?_ | refine zP rfl ?_ | ((first | refine zm ?_ | skip); intro _; intros; simp (disch := first | exact zd | fail) only [↓yS, yT, gresults, gone, ↓reduceIte, Nat.reduceEqDiff, Nat.reduceAdd, Nat.reduceMul, reduceCtorEq, Int.reduceToNat, g20, eqE, h0', decide_false, hls, hat0, by32, h1', decide_true, hatn, h2']; first | (rename_i K k; (first | refine yC (k _ _ ?_) | refine zg (k _ ?_)); clear k K) | (rename_i A B C D a b c d; (first | refine zx (a ?_) | refine zy (b ?_) | refine zz (fun hc => c ?_) (fun hc => d ?_) | refine zv (b ?_) | refine zw (a ?_)) <;> clear a b c d A B C D <;> try simp only [yL] at hc)) | refine zA ?_ | refine zB ?_ | refine zF ?_)
    exact hPost _
  have h2' := eq_false h2
  have hb2 : (l[l.length - 1]! == 32) = false := beq_eq_false_iff_ne.2 h2
  rw [hb2] at hPost
  simp only [Bool.not_false, Bool.and_true, Bool.true_and] at hPost
  repeat' (first | (exfalso; omega) | refine zn ?_ | refine zK rfl ?_ | refine zP rfl ?_ | ((first | refine zm ?_ | skip); intro _; intros; simp (disch := first | exact zd | fail) only [↓yS, yT, gresults, gone, ↓reduceIte, Nat.reduceEqDiff, Nat.reduceAdd, Nat.reduceMul, reduceCtorEq, Int.reduceToNat, g20, eqE, h0', decide_false, hls, hat0, by32, h1', decide_true, hatn, h2']; first | (rename_i K k; (first | refine yC (k _ _ ?_) | refine zg (k _ ?_)); clear k K) | (rename_i A B C D a b c d; (first | refine zx (a ?_) | refine zy (b ?_) | refine zz (fun hc => c ?_) (fun hc => d ?_) | refine zv (b ?_) | refine zw (a ?_)) <;> clear a b c d A B C D <;> try simp only [yL] at hc)) | refine zA ?_ | refine zB ?_ | refine zF ?_)
  refine GW_loop (fun k fr H2 => ∃ (j : Nat), k = l.length - j ∧ 1 ≤ j ∧ j ≤ l.length ∧ fr.get 0 = some (.string (strB l)) ∧ fr.get 3 = some (.int .i64 j) ∧ ∀ i, i + 1 < j → ¬ (l[i]! = 32 ∧ l[i + 1]! = 32)) ?_ (l.length - 1) ?_
  rotate_left
  · refine ⟨1, by omega, by omega, by omega, ?_⟩
    simp only [↓yG, Nat.reduceEqDiff, ↓reduceIte, Int.natCast_add, Int.cast_ofNat_Int, Int.natCast_zero, true_and, and_true, Option.some.injEq, Value.int.injEq]
    exact fun i h => by omega
  rintro k fr H2 ⟨j, rfl, hj1, hj, f0, f3, hno⟩ J hJ
  by_cases hj2 : j < l.length
  · have ej := fun k => strB_at (k := k) hj2
    have ej1 : ∀ k, gix none (.string (strB l)) (.int k ((j : Int) - 1)) = some (.int .u8 (l[j - 1]!.toNat : Nat)) := fun k => by
      have h1 : (j : Int) - 1 = ((j - 1 : Nat) : Int) := by omega
      rw [h1]; exact strB_at (by omega)
    have hnx : ¬ (l[j - 1]! = 32 ∧ l[j]! = 32) → ∀ i, i + 1 < j + 1 → ¬ (l[i]! = 32 ∧ l[i + 1]! = 32) := fun h i hi => by
      rcases Nat.lt_or_eq_of_le (Nat.le_of_lt_succ hi) with h3 | h3
      · exact hno i h3
      · have e1 : i = j - 1 := by omega
        have e2 : i + 1 = j := h3
        rw [e2, e1]; exact h
    by_cases c1 : l[j]! = 32
    · have c1' := eq_true c1
      by_cases c2 : l[j - 1]! = 32
      · have c2' := eq_true c2
        have hdt : dblF l = true := (dblF_iff l).2 ⟨j - 1, by omega, c2, by rw [show j - 1 + 1 = j by omega]; exact c1⟩
        rw [hdt] at hPost
        repeat' (first | (exfalso; omega) | refine zn ?_ | refine zK rfl ?_ | refine zP rfl ?_ | ((first | refine zm ?_ | skip); intro _; intros; simp (disch := first | exact zd | fail) only [↓yS, yT, gresults, gone, ↓reduceIte, Nat.reduceEqDiff, Nat.reduceAdd, Nat.reduceMul, reduceCtorEq, Int.reduceToNat, g20, f0, f3, hls, ej, ej1, by32, c1', c2', decide_true]; first | (rename_i K k; (first | refine yC (k _ _ ?_) | refine zg (k _ ?_)); clear k K) | (rename_i A B C D a b c d; (first | refine zx (a ?_) | refine zy (b ?_) | refine zz (fun hc => c ?_) (fun hc => d ?_) | refine zv (b ?_) | refine zw (a ?_)) <;> clear a b c d A B C D <;> try simp only [yL] at hc)) | refine zA ?_ | refine zB ?_ | refine zF ?_)
        exact hPost _
      · have c2' := eq_false c2
        repeat' (first | (exfalso; omega) | refine zn ?_ | refine zK rfl ?_ | refine zP rfl ?_ | ((first | refine zm ?_ | skip); intro _; intros; simp (disch := first | exact zd | fail) only [↓yS, yT, gresults, gone, ↓reduceIte, Nat.reduceEqDiff, Nat.reduceAdd, Nat.reduceMul, reduceCtorEq, Int.reduceToNat, g20, f0, f3, hls, ej, ej1, by32, c1', c2', decide_true, decide_false]; first | (rename_i K k; (first | refine yC (k _ _ ?_) | refine zg (k _ ?_)); clear k K) | (rename_i A B C D a b c d; (first | refine zx (a ?_) | refine zy (b ?_) | refine zz (fun hc => c ?_) (fun hc => d ?_) | refine zv (b ?_) | refine zw (a ?_)) <;> clear a b c d A B C D <;> try simp only [yL] at hc)) | refine zA ?_ | refine zB ?_ | refine zF ?_)
        refine hJ _ _ ⟨l.length - (j + 1), by omega, j + 1, rfl, by omega, by omega, ?_⟩
        simp only [↓yG, Nat.reduceEqDiff, ↓reduceIte, Int.natCast_add, Int.cast_ofNat_Int, Int.natCast_zero, true_and, and_true, Option.some.injEq, Value.int.injEq, f0]
        exact hnx fun h => c2 h.1
    · have c1' := eq_false c1
      repeat' (first | (exfalso; omega) | refine zn ?_ | refine zK rfl ?_ | refine zP rfl ?_ | ((first | refine zm ?_ | skip); intro _; intros; simp (disch := first | exact zd | fail) only [↓yS, yT, gresults, gone, ↓reduceIte, Nat.reduceEqDiff, Nat.reduceAdd, Nat.reduceMul, reduceCtorEq, Int.reduceToNat, g20, f0, f3, hls, ej, ej1, by32, c1', decide_false]; first | (rename_i K k; (first | refine yC (k _ _ ?_) | refine zg (k _ ?_)); clear k K) | (rename_i A B C D a b c d; (first | refine zx (a ?_) | refine zy (b ?_) | refine zz (fun hc => c ?_) (fun hc => d ?_) | refine zv (b ?_) | refine zw (a ?_)) <;> clear a b c d A B C D <;> try simp only [yL] at hc)) | refine zA ?_ | refine zB ?_ | refine zF ?_)
      refine hJ _ _ ⟨l.length - (j + 1), by omega, j + 1, rfl, by omega, by omega, ?_⟩
      simp only [↓yG, Nat.reduceEqDiff, ↓reduceIte, Int.natCast_add, Int.cast_ofNat_Int, Int.natCast_zero, true_and, and_true, Option.some.injEq, Value.int.injEq, f0]
      exact hnx fun h => c1 h.2
  · obtain rfl : j = l.length := by omega
    have hdf : dblF l = false := by
      cases h : dblF l with
      | false => rfl
      | true =>
        obtain ⟨i, k1, k2, k3⟩ := (dblF_iff l).1 h
        exact absurd ⟨k2, k3⟩ (hno i k1)
    rw [hdf] at hPost
    repeat' (first | (exfalso; omega) | refine zn ?_ | refine zK rfl ?_ | refine zP rfl ?_ | ((first | refine zm ?_ | skip); intro _; intros; simp (disch := first | exact zd | fail) only [↓yS, yT, gresults, gone, ↓reduceIte, Nat.reduceEqDiff, Nat.reduceAdd, Nat.reduceMul, reduceCtorEq, Int.reduceToNat, g20, f0, f3, hls]; first | (rename_i K k; (first | refine yC (k _ _ ?_) | refine zg (k _ ?_)); clear k K) | (rename_i A B C D a b c d; (first | refine zx (a ?_) | refine zy (b ?_) | refine zz (fun hc => c ?_) (fun hc => d ?_) | refine zv (b ?_) | refine zw (a ?_)) <;> clear a b c d A B C D <;> try simp only [yL] at hc)) | refine zA ?_ | refine zB ?_ | refine zF ?_)
    exact hPost _
theorem border_ok {l : List UInt8} (hl : l.length ≤ 16777216) {i : Int} (hi : -100000000 ≤ i ∧ i ≤ 100000000) (H : GHeap) : gev G 41 [.string (strB (foldB (strB l))), .int .i64 i] H = some (.bool (brd (fcs l) i), H) := by
  refine gev_GWP (f := 41) rfl rfl rfl (fun Post hPost => ?_) H
  have hls := strB_size (foldB (strB l))
  have hlf := foldB_len l
  have hat := fun (j : Nat) (h : j < (fcs l).length) => foldB_at (l := l) h
  generalize foldB (strB l) = b at *
  have hasc := fun (j : Nat) (h : j < (fcs l).length) => fcs_ascii l _ (by rw [getElem!_pos _ j h]; exact List.getElem_mem h : (fcs l)[j]! ∈ fcs l)
  generalize fcs l = S at *
  unfold brd at hPost
  simp only [frameOf, Nat.reduceAdd]
  by_cases h1 : i < 0
  · rw [if_pos (.inl h1)] at hPost
    repeat' (first | (exfalso; omega) | refine zn ?_ | refine zK rfl ?_ | refine zP rfl ?_ | ((first | refine zm ?_ | skip); intro _; intros; simp (disch := first | exact zd | fail) only [↓yS, yT, gresults, gone, ↓reduceIte, Nat.reduceEqDiff, Nat.reduceAdd, Nat.reduceMul, reduceCtorEq, Int.reduceToNat, g41]; first | (rename_i K k; (first | refine yC (k _ _ ?_) | refine zg (k _ ?_)); clear k K) | (rename_i A B C D a b c d; (first | refine zx (a ?_) | refine zy (b ?_) | refine zz (fun hc => c ?_) (fun hc => d ?_) | refine zv (b ?_) | refine zw (a ?_)) <;> clear a b c d A B C D <;> try simp only [yL] at hc)) | refine zA ?_ | refine zB ?_ | refine zF ?_)
    exact hPost _
  by_cases h2 : (S.length : Int) ≤ i
  · rw [if_pos (.inr h2)] at hPost
    repeat' (first | (exfalso; omega) | refine zn ?_ | refine zK rfl ?_ | refine zP rfl ?_ | ((first | refine zm ?_ | skip); intro _; intros; simp (disch := first | exact zd | fail) only [↓yS, yT, gresults, gone, ↓reduceIte, Nat.reduceEqDiff, Nat.reduceAdd, Nat.reduceMul, reduceCtorEq, Int.reduceToNat, g41, hls]; first | (rename_i K k; (first | refine yC (k _ _ ?_) | refine zg (k _ ?_)); clear k K) | (rename_i A B C D a b c d; (first | refine zx (a ?_) | refine zy (b ?_) | refine zz (fun hc => c ?_) (fun hc => d ?_) | refine zv (b ?_) | refine zw (a ?_)) <;> clear a b c d A B C D <;> try simp only [yL] at hc)) | refine zA ?_ | refine zB ?_ | refine zF ?_)
    exact hPost _
  rw [if_neg (by omega)] at hPost
  obtain ⟨j, rfl⟩ : ∃ j : Nat, i = j := ⟨i.toNat, by omega⟩
  rw [Int.toNat_natCast] at hPost
  have hj : j < b.length := by omega
  have ej := fun k => strB_at (k := k) hj
  have hjj := hat j (by omega)
  have hrr := hasc j (by omega)
  rw [hjj] at ej
  generalize hx : S[j]! = x at *
  have hw32 : IntKind.i32.wrap (x : Int) = x := wr_i32 (by omega)
  unfold jnd at hPost
  repeat' (first | (exfalso; omega) | refine zn ?_ | refine zK rfl ?_ | refine zP rfl ?_ | ((first | refine zm ?_ | skip); intro _; intros; simp (disch := first | exact zd | fail) only [↓yS, yT, gresults, gone, ↓reduceIte, Nat.reduceEqDiff, Nat.reduceAdd, Nat.reduceMul, reduceCtorEq, Int.reduceToNat, g41, hls, ej, gcv_int, hw32]; first | (rename_i K k; (first | refine yC (k _ _ ?_) | refine zg (k _ ?_)); clear k K) | (rename_i A B C D a b c d; (first | refine zx (a ?_) | refine zy (b ?_) | refine zz (fun hc => c ?_) (fun hc => d ?_) | refine zv (b ?_) | refine zw (a ?_)) <;> clear a b c d A B C D <;> try simp only [yL] at hc)) | refine zA ?_ | refine zB ?_ | refine zF ?_)
  refine Gw_s fun K' hK' => G1_call (by simp only [gtarget, ↓GArg.ev, ↓evs, ↓Tr.get_set, Nat.reduceEqDiff, if_true, if_false, ↓reduceIte, Option.map_some]; rfl) (one_of (class_ok (r := (x : Int)) (by omega) _)) fun r1 H1 hq => hK' _ _ ?_
  obtain ⟨rfl, rfl⟩ := hq
  generalize clsA (x : Int) = c at *
  by_cases c3 : c = 3
  · have hc : (c == 3) = true := by simp [c3]
    rw [hc, Bool.true_or] at hPost
    repeat' (first | (exfalso; omega) | refine zn ?_ | refine zK rfl ?_ | refine zP rfl ?_ | ((first | refine zm ?_ | skip); intro _; intros; simp (disch := first | exact zd | fail) only [↓yS, yT, gresults, gone, ↓reduceIte, Nat.reduceEqDiff, Nat.reduceAdd, Nat.reduceMul, reduceCtorEq, Int.reduceToNat, g41]; first | (rename_i K k; (first | refine yC (k _ _ ?_) | refine zg (k _ ?_)); clear k K) | (rename_i A B C D a b c d; (first | refine zx (a ?_) | refine zy (b ?_) | refine zz (fun hc => c ?_) (fun hc => d ?_) | refine zv (b ?_) | refine zw (a ?_)) <;> clear a b c d A B C D <;> try simp only [yL] at hc)) | refine zA ?_ | refine zB ?_ | refine zF ?_)
    exact hPost _
  · have hc : (c == 3) = false := beq_eq_false_iff_ne.2 c3
    rw [hc, Bool.false_or] at hPost
    by_cases c2 : c = 2
    · have hc : (c == 2) = true := by simp [c2]
      have c2' := eq_true c2
      rw [hc] at hPost
      repeat' (first | (exfalso; omega) | refine zn ?_ | refine zK rfl ?_ | refine zP rfl ?_ | ((first | refine zm ?_ | skip); intro _; intros; simp (disch := first | exact zd | fail) only [↓yS, yT, gresults, gone, ↓reduceIte, Nat.reduceEqDiff, Nat.reduceAdd, Nat.reduceMul, reduceCtorEq, Int.reduceToNat, g41, c2', not_true_eq_false, decide_false]; first | (rename_i K k; (first | refine yC (k _ _ ?_) | refine zg (k _ ?_)); clear k K) | (rename_i A B C D a b c d; (first | refine zx (a ?_) | refine zy (b ?_) | refine zz (fun hc => c ?_) (fun hc => d ?_) | refine zv (b ?_) | refine zw (a ?_)) <;> clear a b c d A B C D <;> try simp only [yL] at hc)) | refine zA ?_ | refine zB ?_ | refine zF ?_)
      exact hPost _
    · have hc : (c == 2) = false := beq_eq_false_iff_ne.2 c2
      have c2' := eq_false c2
      rw [hc] at hPost
      repeat' (first | (exfalso; omega) | refine zn ?_ | refine zK rfl ?_ | refine zP rfl ?_ | ((first | refine zm ?_ | skip); intro _; intros; simp (disch := first | exact zd | fail) only [↓yS, yT, gresults, gone, ↓reduceIte, Nat.reduceEqDiff, Nat.reduceAdd, Nat.reduceMul, reduceCtorEq, Int.reduceToNat, g41, c2', not_false_eq_true, decide_true]; first | (rename_i K k; (first | refine yC (k _ _ ?_) | refine zg (k _ ?_)); clear k K) | (rename_i A B C D a b c d; (first | refine zx (a ?_) | refine zy (b ?_) | refine zz (fun hc => c ?_) (fun hc => d ?_) | refine zv (b ?_) | refine zw (a ?_)) <;> clear a b c d A B C D <;> try simp only [yL] at hc)) | refine zA ?_ | refine zB ?_ | refine zF ?_)
      exact hPost _
theorem joined_ok {x : Nat} (hx : 32 ≤ x ∧ x ≤ 126) (H : GHeap) : gev G 51 [.int .i32 (x : Int)] H = some (.bool (jnd x), H) := by
  refine gev_GWP (f := 51) rfl rfl rfl (fun Post hPost => ?_) H
  unfold jnd at hPost
  rw [(same_all (x : Int)).1] at hPost
  simp only [frameOf, Nat.reduceAdd]
  repeat' (first | refine zn ?_ | refine zK rfl ?_ | refine zP rfl ?_ | ((first | refine zm ?_ | skip); intro _; intros; simp (disch := first | exact zd | fail) only [↓yS, yT, gresults, gone, ↓reduceIte, Nat.reduceEqDiff, Nat.reduceAdd, Nat.reduceMul, reduceCtorEq, Int.reduceToNat, g51]; first | (rename_i K k; (first | refine yC (k _ _ ?_) | refine zg (k _ ?_)); clear k K) | (rename_i A B C D a b c d; (first | refine zx (a ?_) | refine zy (b ?_) | refine zz (fun hc => c ?_) (fun hc => d ?_) | refine zv (b ?_) | refine zw (a ?_)) <;> clear a b c d A B C D <;> try simp only [yL] at hc)) | refine zA ?_ | refine zB ?_ | refine zF ?_)
  refine Gw_s fun K' hK' => G1_call (by simp only [gtarget, ↓GArg.ev, ↓evs, ↓Tr.get_set, Nat.reduceEqDiff, if_true, if_false, ↓reduceIte, Option.map_some]; rfl) (one_of (rclass_ok (r := (x : Int)) (by omega) _)) fun r1 H1 hq => hK' _ _ ?_
  obtain ⟨rfl, rfl⟩ := hq
  generalize clsB (x : Int) = c at *
  by_cases c3 : c = 3
  · have hc : (c == 3) = true := by simp [c3]
    rw [hc, Bool.true_or] at hPost
    repeat' (first | (exfalso; omega) | refine zn ?_ | refine zK rfl ?_ | refine zP rfl ?_ | ((first | refine zm ?_ | skip); intro _; intros; simp (disch := first | exact zd | fail) only [↓yS, yT, gresults, gone, ↓reduceIte, Nat.reduceEqDiff, Nat.reduceAdd, Nat.reduceMul, reduceCtorEq, Int.reduceToNat, g51]; first | (rename_i K k; (first | refine yC (k _ _ ?_) | refine zg (k _ ?_)); clear k K) | (rename_i A B C D a b c d; (first | refine zx (a ?_) | refine zy (b ?_) | refine zz (fun hc => c ?_) (fun hc => d ?_) | refine zv (b ?_) | refine zw (a ?_)) <;> clear a b c d A B C D <;> try simp only [yL] at hc)) | refine zA ?_ | refine zB ?_ | refine zF ?_)
    exact hPost _
  · have hc : (c == 3) = false := beq_eq_false_iff_ne.2 c3
    rw [hc, Bool.false_or] at hPost
    by_cases c2 : c = 2
    · have hc : (c == 2) = true := by simp [c2]
      have c2' := eq_true c2
      rw [hc] at hPost
      repeat' (first | (exfalso; omega) | refine zn ?_ | refine zK rfl ?_ | refine zP rfl ?_ | ((first | refine zm ?_ | skip); intro _; intros; simp (disch := first | exact zd | fail) only [↓yS, yT, gresults, gone, ↓reduceIte, Nat.reduceEqDiff, Nat.reduceAdd, Nat.reduceMul, reduceCtorEq, Int.reduceToNat, g51, c2', decide_true]; first | (rename_i K k; (first | refine yC (k _ _ ?_) | refine zg (k _ ?_)); clear k K) | (rename_i A B C D a b c d; (first | refine zx (a ?_) | refine zy (b ?_) | refine zz (fun hc => c ?_) (fun hc => d ?_) | refine zv (b ?_) | refine zw (a ?_)) <;> clear a b c d A B C D <;> try simp only [yL] at hc)) | refine zA ?_ | refine zB ?_ | refine zF ?_)
      exact hPost _
    · have hc : (c == 2) = false := beq_eq_false_iff_ne.2 c2
      have c2' := eq_false c2
      rw [hc] at hPost
      repeat' (first | (exfalso; omega) | refine zn ?_ | refine zK rfl ?_ | refine zP rfl ?_ | ((first | refine zm ?_ | skip); intro _; intros; simp (disch := first | exact zd | fail) only [↓yS, yT, gresults, gone, ↓reduceIte, Nat.reduceEqDiff, Nat.reduceAdd, Nat.reduceMul, reduceCtorEq, Int.reduceToNat, g51, c2', decide_false]; first | (rename_i K k; (first | refine yC (k _ _ ?_) | refine zg (k _ ?_)); clear k K) | (rename_i A B C D a b c d; (first | refine zx (a ?_) | refine zy (b ?_) | refine zz (fun hc => c ?_) (fun hc => d ?_) | refine zv (b ?_) | refine zw (a ?_)) <;> clear a b c d A B C D <;> try simp only [yL] at hc)) | refine zA ?_ | refine zB ?_ | refine zF ?_)
      exact hPost _
theorem repl_ok {l : List UInt8} (hl : l.length ≤ 16777216) {A B : ByteArray} (hA : A = strB [10]) (hB : B = strB [32]) (H : GHeap) : gev G 38 [.string (strB l), .string A, .string B] H = some (.string (strB (rpl l)), H) := by
  subst hA hB
  refine gev_lib (f := 38) rfl rfl ?_ rfl
  simp only [runReplaceAll]
  have hc : countB (strB l) (strB [10]) = l.count 10 := by
    show count l [10] = _
    exact count_one 10 l
  have hcl : l.count 10 ≤ l.length := List.count_le_length
  rw [if_pos ⟨by rw [strB_size]; omega, by decide, by rw [strB_size, hc, strB_size]; simp; omega⟩]
  rw [strB_data, strB_data, strB_data, replaceAll_rpl]
  rfl
theorem foldB_slice {l t : List UInt8} {i : Nat} (h : i + (fcs t).length ≤ (fcs l).length) : (((foldB (strB l)).take (i + (fcs t).length)).drop i = foldB (strB t)) = (((fcs l).drop i).take (fcs t).length = fcs t) := by
  have key : ∀ (a b : List Nat), (∀ x ∈ a, x ≤ 126) → (∀ x ∈ b, x ≤ 126) → (a.map UInt8.ofNat = b.map UInt8.ofNat) = (a = b) := by
    intro a b ha hb
    apply propext
    constructor
    · intro e
      have h1 : a = (a.map UInt8.ofNat).map UInt8.toNat := by
        rw [List.map_map]
        conv => lhs; rw [← List.map_id a]
        refine List.map_congr_left fun x hx => ?_
        have := ha x hx
        simp [UInt8.toNat_ofNat']; omega
      have h2 : b = (b.map UInt8.ofNat).map UInt8.toNat := by
        rw [List.map_map]
        conv => lhs; rw [← List.map_id b]
        refine List.map_congr_left fun x hx => ?_
        have := hb x hx
        simp [UInt8.toNat_ofNat']; omega
      rw [h1, h2, e]
    · intro e; rw [e]
  rw [foldB_fcs, foldB_fcs, ← List.map_take, ← List.map_drop, List.drop_take, Nat.add_sub_cancel_left]
  exact key _ _ (fun x hx => (fcs_ascii l x (List.mem_of_mem_drop (List.mem_of_mem_take hx))).2) (fun x hx => (fcs_ascii t x hx).2)
theorem fcs_len (l : List UInt8) : (fcs l).length ≤ l.length := by
  unfold fcs
  have := charL_len (strB l)
  rw [strB_size] at this
  simpa using this
set_option maxHeartbeats 2000000 in
theorem Contains_ok {x t : List UInt8} (hx : x.length ≤ 16777216) (ht : t.length ≤ 16777216) (H : GHeap) : gev G 14 [.string (strB x), .string (strB t)] H = some (.bool (conB x t), H) := by
  refine gev_GWP (f := 14) rfl rfl rfl (fun Post hPost => ?_) H
  unfold conB at hPost
  have hrl := rpl_len x
  simp only [frameOf, Nat.reduceAdd]
  repeat' (first | refine zn ?_ | refine zK rfl ?_ | refine zP rfl ?_ | ((first | refine zm ?_ | skip); intro _; intros; simp (disch := first | exact zd | fail) only [↓yS, yT, gresults, gone, ↓reduceIte, Nat.reduceEqDiff, Nat.reduceAdd, Nat.reduceMul, reduceCtorEq, Int.reduceToNat, g14]; first | (rename_i K k; (first | refine yC (k _ _ ?_) | refine zg (k _ ?_)); clear k K) | (rename_i A B C D a b c d; (first | refine zx (a ?_) | refine zy (b ?_) | refine zz (fun hc => c ?_) (fun hc => d ?_) | refine zv (b ?_) | refine zw (a ?_)) <;> clear a b c d A B C D <;> try simp only [yL] at hc)) | refine zA ?_ | refine zB ?_ | refine zF ?_)
  refine Gw_s fun K' hK' => G1_call (by simp only [gtarget, ↓GArg.ev, ↓evs, ↓Tr.get_set, Nat.reduceEqDiff, if_true, if_false, ↓reduceIte, Option.map_some]; rfl) (one_of (repl_ok hx (by rfl) (by rfl) _)) fun r1 H1 hq => hK' _ _ ?_
  obtain ⟨rfl, rfl⟩ := hq
  generalize rpl x = l at *
  have hll : l.length ≤ 16777216 := by omega
  repeat' (first | refine zn ?_ | refine zK rfl ?_ | refine zP rfl ?_ | ((first | refine zm ?_ | skip); intro _; intros; simp (disch := first | exact zd | fail) only [↓yS, yT, gresults, gone, ↓reduceIte, Nat.reduceEqDiff, Nat.reduceAdd, Nat.reduceMul, reduceCtorEq, Int.reduceToNat, g14]; first | (rename_i K k; (first | refine yC (k _ _ ?_) | refine zg (k _ ?_)); clear k K) | (rename_i A B C D a b c d; (first | refine zx (a ?_) | refine zy (b ?_) | refine zz (fun hc => c ?_) (fun hc => d ?_) | refine zv (b ?_) | refine zw (a ?_)) <;> clear a b c d A B C D <;> try simp only [yL] at hc)) | refine zA ?_ | refine zB ?_ | refine zF ?_)
  refine Gw_s fun K' hK' => G1_call (by simp only [gtarget, ↓GArg.ev, ↓evs, ↓Tr.get_set, Nat.reduceEqDiff, if_true, if_false, ↓reduceIte, Option.map_some]; rfl) (one_of (valid_ok (s := strB l) (by rw [strB_size]; omega) _)) fun r1 H1 hq => hK' _ _ ?_
  obtain ⟨rfl, rfl⟩ := hq
  by_cases hv : vldB (strB l) = true
  case neg =>
    have hv' : vldB (strB l) = false := by simpa using hv
    rw [if_neg (fun h => hv h.1)] at hPost
    rw [hv']
    repeat' (first | (exfalso; omega) | refine zn ?_ | refine zK rfl ?_ | refine zP rfl ?_ | ((first | refine zm ?_ | skip); intro _; intros; simp (disch := first | exact zd | fail) only [↓yS, yT, gresults, gone, ↓reduceIte, Nat.reduceEqDiff, Nat.reduceAdd, Nat.reduceMul, reduceCtorEq, Int.reduceToNat, g14]; first | (rename_i K k; (first | refine yC (k _ _ ?_) | refine zg (k _ ?_)); clear k K) | (rename_i A B C D a b c d; (first | refine zx (a ?_) | refine zy (b ?_) | refine zz (fun hc => c ?_) (fun hc => d ?_) | refine zv (b ?_) | refine zw (a ?_)) <;> clear a b c d A B C D <;> try simp only [yL] at hc)) | refine zA ?_ | refine zB ?_ | refine zF ?_)
    exact hPost _
  rw [hv]
  repeat' (first | (exfalso; omega) | refine zn ?_ | refine zK rfl ?_ | refine zP rfl ?_ | ((first | refine zm ?_ | skip); intro _; intros; simp (disch := first | exact zd | fail) only [↓yS, yT, gresults, gone, ↓reduceIte, Nat.reduceEqDiff, Nat.reduceAdd, Nat.reduceMul, reduceCtorEq, Int.reduceToNat, g14]; first | (rename_i K k; (first | refine yC (k _ _ ?_) | refine zg (k _ ?_)); clear k K) | (rename_i A B C D a b c d; (first | refine zx (a ?_) | refine zy (b ?_) | refine zz (fun hc => c ?_) (fun hc => d ?_) | refine zv (b ?_) | refine zw (a ?_)) <;> clear a b c d A B C D <;> try simp only [yL] at hc)) | refine zA ?_ | refine zB ?_ | refine zF ?_)
  intro K' hK'; refine G1_call (by simp only [gtarget, ↓GArg.ev, ↓evs, ↓Tr.get_set, Nat.reduceEqDiff, if_true, if_false, ↓reduceIte, Option.map_some]; rfl) (one_of (phrase_ok ht _)) fun r1 H1 hq => hK' _ _ ?_
  obtain ⟨rfl, rfl⟩ := hq
  by_cases hp : phrB t = true
  case neg =>
    have hp' : phrB t = false := by simpa using hp
    rw [if_neg (fun h => hp h.2)] at hPost
    rw [hp']
    repeat' (first | (exfalso; omega) | refine zn ?_ | refine zK rfl ?_ | refine zP rfl ?_ | ((first | refine zm ?_ | skip); intro _; intros; simp (disch := first | exact zd | fail) only [↓yS, yT, gresults, gone, ↓reduceIte, Nat.reduceEqDiff, Nat.reduceAdd, Nat.reduceMul, reduceCtorEq, Int.reduceToNat, g14]; first | (rename_i K k; (first | refine yC (k _ _ ?_) | refine zg (k _ ?_)); clear k K) | (rename_i A B C D a b c d; (first | refine zx (a ?_) | refine zy (b ?_) | refine zz (fun hc => c ?_) (fun hc => d ?_) | refine zv (b ?_) | refine zw (a ?_)) <;> clear a b c d A B C D <;> try simp only [yL] at hc)) | refine zA ?_ | refine zB ?_ | refine zF ?_)
    exact hPost _
  rw [if_pos ⟨hv, hp⟩] at hPost
  rw [hp]
  repeat' (first | (exfalso; omega) | refine zn ?_ | refine zK rfl ?_ | refine zP rfl ?_ | ((first | refine zm ?_ | skip); intro _; intros; simp (disch := first | exact zd | fail) only [↓yS, yT, gresults, gone, ↓reduceIte, Nat.reduceEqDiff, Nat.reduceAdd, Nat.reduceMul, reduceCtorEq, Int.reduceToNat, g14]; first | (rename_i K k; (first | refine yC (k _ _ ?_) | refine zg (k _ ?_)); clear k K) | (rename_i A B C D a b c d; (first | refine zx (a ?_) | refine zy (b ?_) | refine zz (fun hc => c ?_) (fun hc => d ?_) | refine zv (b ?_) | refine zw (a ?_)) <;> clear a b c d A B C D <;> try simp only [yL] at hc)) | refine zA ?_ | refine zB ?_ | refine zF ?_)
  refine Gw_s fun K' hK' => G1_call (by simp only [gtarget, ↓GArg.ev, ↓evs, ↓Tr.get_set, Nat.reduceEqDiff, if_true, if_false, ↓reduceIte, Option.map_some]; rfl) (one_of (fold_ok (s := strB l) (by rw [strB_size]; omega) _)) fun r1 H1 hq => hK' _ _ ?_
  obtain ⟨rfl, rfl⟩ := hq
  repeat' (first | (exfalso; omega) | refine zn ?_ | refine zK rfl ?_ | refine zP rfl ?_ | ((first | refine zm ?_ | skip); intro _; intros; simp (disch := first | exact zd | fail) only [↓yS, yT, gresults, gone, ↓reduceIte, Nat.reduceEqDiff, Nat.reduceAdd, Nat.reduceMul, reduceCtorEq, Int.reduceToNat, g14]; first | (rename_i K k; (first | refine yC (k _ _ ?_) | refine zg (k _ ?_)); clear k K) | (rename_i A B C D a b c d; (first | refine zx (a ?_) | refine zy (b ?_) | refine zz (fun hc => c ?_) (fun hc => d ?_) | refine zv (b ?_) | refine zw (a ?_)) <;> clear a b c d A B C D <;> try simp only [yL] at hc)) | refine zA ?_ | refine zB ?_ | refine zF ?_)
  refine Gw_s fun K' hK' => G1_call (by simp only [gtarget, ↓GArg.ev, ↓evs, ↓Tr.get_set, Nat.reduceEqDiff, if_true, if_false, ↓reduceIte, Option.map_some]; rfl) (one_of (fold_ok (s := strB t) (by rw [strB_size]; omega) _)) fun r1 H1 hq => hK' _ _ ?_
  obtain ⟨rfl, rfl⟩ := hq
  repeat' (first | (exfalso; omega) | refine zn ?_ | refine zK rfl ?_ | refine zP rfl ?_ | ((first | refine zm ?_ | skip); intro _; intros; simp (disch := first | exact zd | fail) only [↓yS, yT, gresults, gone, ↓reduceIte, Nat.reduceEqDiff, Nat.reduceAdd, Nat.reduceMul, reduceCtorEq, Int.reduceToNat, g14]; first | (rename_i K k; (first | refine yC (k _ _ ?_) | refine zg (k _ ?_)); clear k K) | (rename_i A B C D a b c d; (first | refine zx (a ?_) | refine zy (b ?_) | refine zz (fun hc => c ?_) (fun hc => d ?_) | refine zv (b ?_) | refine zw (a ?_)) <;> clear a b c d A B C D <;> try simp only [yL] at hc)) | refine zA ?_ | refine zB ?_ | refine zF ?_)
  have hbl := foldB_len l
  have hbt := foldB_len t
  have hsl := (strB_size (foldB (strB l))).trans hbl
  have hst := (strB_size (foldB (strB t))).trans hbt
  have hfl := fcs_len l
  have hft := fcs_len t
  refine GW_loop (fun k fr H2 => ∃ (i : Nat), k = (fcs l).length + 1 - i ∧ i ≤ (fcs l).length + 1 ∧ fr.get 5 = some (.string (strB (foldB (strB l)))) ∧ fr.get 6 = some (.string (strB (foldB (strB t)))) ∧ fr.get 7 = some (.int .i64 i) ∧ ∀ j, j < i → j + (fcs t).length ≤ (fcs l).length → mat (fcs l) (fcs t) j = false) ?_ ((fcs l).length + 1) ?_
  rotate_left
  · refine ⟨0, by omega, by omega, ?_⟩
    simp only [↓yG, Nat.reduceEqDiff, ↓reduceIte, Int.natCast_add, Int.cast_ofNat_Int, Int.natCast_zero, true_and, and_true, Option.some.injEq, Value.int.injEq]
    exact fun j h => absurd h (Nat.not_lt_zero _)
  rintro k fr H2 ⟨i, rfl, hi, f5, f6, f7, hno⟩ J hJ
  by_cases hi2 : i + (fcs t).length ≤ (fcs l).length
  case neg =>
    have hcf : conF (fcs l) (fcs t) = false := conF_false fun j hj => hno j (by omega) hj
    rw [hcf] at hPost
    repeat' (first | (exfalso; omega) | refine zn ?_ | refine zK rfl ?_ | refine zP rfl ?_ | ((first | refine zm ?_ | skip); intro _; intros; simp (disch := first | exact zd | fail) only [↓yS, yT, gresults, gone, ↓reduceIte, Nat.reduceEqDiff, Nat.reduceAdd, Nat.reduceMul, reduceCtorEq, Int.reduceToNat, g14, f5, f6, f7, hsl, hst]; first | (rename_i K k; (first | refine yC (k _ _ ?_) | refine zg (k _ ?_)); clear k K) | (rename_i A B C D a b c d; (first | refine zx (a ?_) | refine zy (b ?_) | refine zz (fun hc => c ?_) (fun hc => d ?_) | refine zv (b ?_) | refine zw (a ?_)) <;> clear a b c d A B C D <;> try simp only [yL] at hc)) | refine zA ?_ | refine zB ?_ | refine zF ?_)
    exact hPost _
  have hslc := foldB_slice (l := l) (t := t) hi2
  have hmid : ∀ H k k', gslice .str H (.string (strB (foldB (strB l)))) (some (.int k (i : Int))) (some (.int k' ((i : Int) + ((fcs t).length : Int)))) none = some (.string (strB (((foldB (strB l)).take (i + (fcs t).length)).drop i))) := fun H k k' => by
    have h1 := sl_mid (H := H) (l := foldB (strB l)) (k := k) (k' := k') (a := i) (b := (i : Int) + ((fcs t).length : Int)) (by omega) (by omega) (by omega)
    rw [h1, show ((i : Int) + ((fcs t).length : Int)).toNat = i + (fcs t).length by omega, Int.toNat_natCast]
  have hnx : mat (fcs l) (fcs t) i = false → ∀ j, j < i + 1 → j + (fcs t).length ≤ (fcs l).length → mat (fcs l) (fcs t) j = false := fun h j hj => by
    rcases Nat.lt_or_eq_of_le (Nat.le_of_lt_succ hj) with h3 | rfl
    · exact hno j h3
    · exact fun _ => h
  have hyes : mat (fcs l) (fcs t) i = true → conF (fcs l) (fcs t) = true := fun h => conF_true hi2 h
  unfold mat at hnx hyes
  by_cases he : ((fcs l).drop i).take (fcs t).length = fcs t
  case neg =>
    have he' := eq_false he
    rw [he'] at hslc
    rw [decide_eq_false he, Bool.false_and, Bool.false_and] at hnx
    repeat' (first | (exfalso; omega) | refine zn ?_ | refine zK rfl ?_ | refine zP rfl ?_ | ((first | refine zm ?_ | skip); intro _; intros; simp (disch := first | exact zd | fail) only [↓yS, yT, gresults, gone, ↓reduceIte, Nat.reduceEqDiff, Nat.reduceAdd, Nat.reduceMul, reduceCtorEq, Int.reduceToNat, g14, f5, f6, f7, hsl, hst, hmid, hslc, decide_false]; first | (rename_i K k; (first | refine yC (k _ _ ?_) | refine zg (k _ ?_)); clear k K) | (rename_i A B C D a b c d; (first | refine zx (a ?_) | refine zy (b ?_) | refine zz (fun hc => c ?_) (fun hc => d ?_) | refine zv (b ?_) | refine zw (a ?_)) <;> clear a b c d A B C D <;> try simp only [yL] at hc)) | refine zA ?_ | refine zB ?_ | refine zF ?_)
    refine hJ _ _ ⟨(fcs l).length + 1 - (i + 1), by omega, i + 1, rfl, by omega, ?_⟩
    simp only [↓yG, Nat.reduceEqDiff, ↓reduceIte, Int.natCast_add, Int.cast_ofNat_Int, Int.natCast_zero, true_and, and_true, Option.some.injEq, Value.int.injEq, f5, f6]
    exact hnx rfl
  have he' := eq_true he
  rw [he'] at hslc
  rw [decide_eq_true he, Bool.true_and] at hnx hyes
  repeat' (first | (exfalso; omega) | refine zn ?_ | refine zK rfl ?_ | refine zP rfl ?_ | ((first | refine zm ?_ | skip); intro _; intros; simp (disch := first | exact zd | fail) only [↓yS, yT, gresults, gone, ↓reduceIte, Nat.reduceEqDiff, Nat.reduceAdd, Nat.reduceMul, reduceCtorEq, Int.reduceToNat, g14, f5, f6, f7, hsl, hst, hmid, hslc, decide_true]; first | (rename_i K k; (first | refine yC (k _ _ ?_) | refine zg (k _ ?_)); clear k K) | (rename_i A B C D a b c d; (first | refine zx (a ?_) | refine zy (b ?_) | refine zz (fun hc => c ?_) (fun hc => d ?_) | refine zv (b ?_) | refine zw (a ?_)) <;> clear a b c d A B C D <;> try simp only [yL] at hc)) | refine zA ?_ | refine zB ?_ | refine zF ?_)
  intro K' hK'; refine G1_call (by simp only [gtarget, ↓GArg.ev, ↓evs, ↓Tr.get_set, Nat.reduceEqDiff, if_true, if_false, ↓reduceIte, Option.map_some, f5, f6, f7]; rfl) (one_of (border_ok hll (i := (i : Int) - 1) (by omega) _)) fun r3 H3 hq => hK' _ _ ?_
  obtain ⟨rfl, rfl⟩ := hq
  cases hb1 : brd (fcs l) ((i : Int) - 1) with
  | false =>
    rw [hb1, Bool.false_and] at hnx
    repeat' (first | (exfalso; omega) | refine zn ?_ | refine zK rfl ?_ | refine zP rfl ?_ | ((first | refine zm ?_ | skip); intro _; intros; simp (disch := first | exact zd | fail) only [↓yS, yT, gresults, gone, ↓reduceIte, Nat.reduceEqDiff, Nat.reduceAdd, Nat.reduceMul, reduceCtorEq, Int.reduceToNat, g14, f5, f6, f7]; first | (rename_i K k; (first | refine yC (k _ _ ?_) | refine zg (k _ ?_)); clear k K) | (rename_i A B C D a b c d; (first | refine zx (a ?_) | refine zy (b ?_) | refine zz (fun hc => c ?_) (fun hc => d ?_) | refine zv (b ?_) | refine zw (a ?_)) <;> clear a b c d A B C D <;> try simp only [yL] at hc)) | refine zA ?_ | refine zB ?_ | refine zF ?_)
    refine hJ _ _ ⟨(fcs l).length + 1 - (i + 1), by omega, i + 1, rfl, by omega, ?_⟩
    simp only [↓yG, Nat.reduceEqDiff, ↓reduceIte, Int.natCast_add, Int.cast_ofNat_Int, Int.natCast_zero, true_and, and_true, Option.some.injEq, Value.int.injEq, f5, f6]
    exact hnx rfl
  | true =>
    rw [hb1, Bool.true_and] at hnx hyes
    repeat' (first | (exfalso; omega) | refine zn ?_ | refine zK rfl ?_ | refine zP rfl ?_ | ((first | refine zm ?_ | skip); intro _; intros; simp (disch := first | exact zd | fail) only [↓yS, yT, gresults, gone, ↓reduceIte, Nat.reduceEqDiff, Nat.reduceAdd, Nat.reduceMul, reduceCtorEq, Int.reduceToNat, g14, f5, f6, f7, hsl, hst]; first | (rename_i K k; (first | refine yC (k _ _ ?_) | refine zg (k _ ?_)); clear k K) | (rename_i A B C D a b c d; (first | refine zx (a ?_) | refine zy (b ?_) | refine zz (fun hc => c ?_) (fun hc => d ?_) | refine zv (b ?_) | refine zw (a ?_)) <;> clear a b c d A B C D <;> try simp only [yL] at hc)) | refine zA ?_ | refine zB ?_ | refine zF ?_)
    intro K' hK'; refine G1_call (by simp only [gtarget, ↓GArg.ev, ↓evs, ↓Tr.get_set, Nat.reduceEqDiff, if_true, if_false, ↓reduceIte, Option.map_some, f5, f6, f7]; rfl) (one_of (border_ok hll (i := (i : Int) + (fcs t).length) (by omega) _)) fun r3 H3 hq => hK' _ _ ?_
    obtain ⟨rfl, rfl⟩ := hq
    cases hb2 : brd (fcs l) ((i : Int) + (fcs t).length) with
    | false =>
      rw [hb2] at hnx
      repeat' (first | (exfalso; omega) | refine zn ?_ | refine zK rfl ?_ | refine zP rfl ?_ | ((first | refine zm ?_ | skip); intro _; intros; simp (disch := first | exact zd | fail) only [↓yS, yT, gresults, gone, ↓reduceIte, Nat.reduceEqDiff, Nat.reduceAdd, Nat.reduceMul, reduceCtorEq, Int.reduceToNat, g14, f5, f6, f7]; first | (rename_i K k; (first | refine yC (k _ _ ?_) | refine zg (k _ ?_)); clear k K) | (rename_i A B C D a b c d; (first | refine zx (a ?_) | refine zy (b ?_) | refine zz (fun hc => c ?_) (fun hc => d ?_) | refine zv (b ?_) | refine zw (a ?_)) <;> clear a b c d A B C D <;> try simp only [yL] at hc)) | refine zA ?_ | refine zB ?_ | refine zF ?_)
      refine hJ _ _ ⟨(fcs l).length + 1 - (i + 1), by omega, i + 1, rfl, by omega, ?_⟩
      simp only [↓yG, Nat.reduceEqDiff, ↓reduceIte, Int.natCast_add, Int.cast_ofNat_Int, Int.natCast_zero, true_and, and_true, Option.some.injEq, Value.int.injEq, f5, f6]
      exact hnx rfl
    | true =>
      rw [hyes hb2] at hPost
      repeat' (first | (exfalso; omega) | refine zn ?_ | refine zK rfl ?_ | refine zP rfl ?_ | ((first | refine zm ?_ | skip); intro _; intros; simp (disch := first | exact zd | fail) only [↓yS, yT, gresults, gone, ↓reduceIte, Nat.reduceEqDiff, Nat.reduceAdd, Nat.reduceMul, reduceCtorEq, Int.reduceToNat, g14, f5, f6, f7]; first | (rename_i K k; (first | refine yC (k _ _ ?_) | refine zg (k _ ?_)); clear k K) | (rename_i A B C D a b c d; (first | refine zx (a ?_) | refine zy (b ?_) | refine zz (fun hc => c ?_) (fun hc => d ?_) | refine zv (b ?_) | refine zw (a ?_)) <;> clear a b c d A B C D <;> try simp only [yL] at hc)) | refine zA ?_ | refine zB ?_ | refine zF ?_)
      exact hPost _
end Go.Gh
