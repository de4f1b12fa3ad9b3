/-
  glossary, walked: phrases; what a text contains; the reference's too.
-/
import Derived.Test.YtfldcmeecpgpeaaDoorGlF
namespace Go.Gh
set_option linter.unusedSimpArgs false
set_option linter.unusedVariables false
open Go.RowKit Go.Lib
set_option maxRecDepth 4000
theorem strB_at {l : List UInt8} {k : IntKind} {j : Nat} (h : j < l.length) : gix none (.string (strB l)) (.int k j) = some (.int .u8 (l[j]!.toNat : Nat)) := by
  have hs := strB_size l
  simp only [gix, Int.toNat_natCast]
  rw [if_pos (by omega)]
  have h4 : (strB l)[j]? = some l[j]! := by
    rw [getElem?_pos (strB l) j (by omega), getElem!_pos l j h]
    simp [strB, ByteArray.getElem_eq_getElem_data]
  rw [h4]; rfl
theorem strB_ext (l : List UInt8) (a b : Nat) : (strB l).extract a b = strB ((l.take b).drop a) := by
  apply ByteArray.ext
  rw [ByteArray.data_extract]
  apply Array.ext'
  simp [strB, List.extract_eq_take_drop, List.drop_take]
theorem sl_mid {H : GHeap} {l : List UInt8} {k k' : IntKind} {a b : Int} (h0 : 0 ≤ a) (h1 : a ≤ b) (h2 : b ≤ l.length) : gslice .str H (.string (strB l)) (some (.int k a)) (some (.int k' b)) none = some (.string (strB ((l.take b.toNat).drop a.toNat))) := by
  have hs := strB_size l
  simp only [gslice, gbounds]
  rw [if_pos ⟨by omega, by rw [hs]; exact h2⟩]
  simp only
  rw [if_pos ⟨h0, by omega⟩]
  simp [strB_ext]
theorem sl_suf {H : GHeap} {l : List UInt8} {k : IntKind} {a : Int} (h0 : 0 ≤ a) (h2 : a ≤ l.length) : gslice .str H (.string (strB l)) (some (.int k a)) none none = some (.string (strB (l.drop a.toNat))) := by
  have hs := strB_size l
  simp only [gslice, gbounds]
  rw [if_pos ⟨h0, by rw [hs]; omega⟩]
  simp only [Option.map_some]
  rw [strB_ext, hs, List.take_length]
theorem eqE {e : Option EqK} {a : List UInt8} : gbin .eql e (.string (strB a)) (.string ⟨#[]⟩) = some (.bool (decide (a = []))) := gb_eqlB (b := [])
theorem neE {e : Option EqK} {a : List UInt8} : gbin .neq e (.string (strB a)) (.string ⟨#[]⟩) = some (.bool (decide (¬ a = []))) := gb_neqB (b := [])
theorem byte_eq {b : UInt8} {n : Nat} (hn : n < 256) : (((b.toNat : Nat) : Int) = (n : Int)) = (b = UInt8.ofNat n) := by
  apply propext
  constructor
  · intro h
    have : b.toNat = n := by omega
    rw [← this]; simp
  · intro h; rw [h]; simp [Nat.mod_eq_of_lt hn]
theorem by32 {b : UInt8} : (((b.toNat : Nat) : Int) = 32) = (b = 32) := byte_eq (n := 32) (by decide)
theorem cont_ok {l : List UInt8} (hl : l.length ≤ 16777216) {B : ByteArray} (hB : B = strB [32, 32]) (H : GHeap) : gev G 50 [.string (strB l), .string B] H = some (.bool (dblF l), H) := by
  subst hB
  refine gev_lib (f := 50) rfl rfl ?_ rfl
  simp only [runContains]
  rw [if_pos (by rw [strB_size]; omega), strB_data, strB_data, contains_dbl]
theorem phrase_ok {l : List UInt8} (hl : l.length ≤ 16777216) (H : GHeap) : gev G 22 [.string (strB l)] H = some (.bool (phrB l), H) := by
  refine gev_GWP (f := 22) rfl rfl rfl (fun Post hPost => ?_) H
  unfold phrB at hPost
  simp only [frameOf, Nat.reduceAdd]
  repeat' (first | refine zn ?_ | refine zK rfl ?_ | refine zP rfl ?_ | ((first | refine zm ?_ | skip); intro _; intros; simp (disch := first | exact zd | fail) only [↓yS, yT, ↓reduceIte, Nat.reduceEqDiff, Nat.reduceAdd, Nat.reduceMul, reduceCtorEq, Int.reduceToNat, g22]; first | (rename_i K k; refine yC (k _ _ ?_); clear k K) | (rename_i A B C D a b c d; (first | refine zX (a ?_) | refine zY (b ?_) | refine zZ (fun hc => c ?_) (fun hc => d ?_)) <;> clear a b c d A B C D <;> try simp only [yL] at hc)) | (refine yA ?_; intro A a; simp only [↓yG, Nat.reduceEqDiff, ↓reduceIte, g22]; refine yB (a ?_); clear a A) | (refine yD ?_; simp only [gresults, ↓yG, Nat.reduceEqDiff, ↓reduceIte, Option.bind_some, gld_1, gld_n, g22]; refine ⟨_, rfl, ?_⟩; simp only [gone]) | refine zA ?_ | refine zB ?_ | refine zF ?_)
  refine Gw_s fun K' hK' => G1_call (by simp only [gtarget, ↓GArg.ev, ↓evs, ↓Tr.get_set, Nat.reduceEqDiff, if_true, if_false, ↓reduceIte, Option.map_some]; rfl) (one_of (valid_ok (s := strB l) (by rw [strB_size]; omega) _)) fun r1 H1 hq => hK' _ _ ?_
  obtain ⟨rfl, rfl⟩ := hq
  cases hv : vldB (strB l) with
  | false =>
    rw [hv] at hPost
    simp only [Bool.false_and] at hPost
    repeat' (first | (exfalso; omega) | refine zn ?_ | refine zK rfl ?_ | refine zP rfl ?_ | ((first | refine zm ?_ | skip); intro _; intros; simp (disch := first | exact zd | fail) only [↓yS, yT, ↓reduceIte, Nat.reduceEqDiff, Nat.reduceAdd, Nat.reduceMul, reduceCtorEq, Int.reduceToNat, g22]; first | (rename_i K k; refine yC (k _ _ ?_); clear k K) | (rename_i A B C D a b c d; (first | refine zX (a ?_) | refine zY (b ?_) | refine zZ (fun hc => c ?_) (fun hc => d ?_)) <;> clear a b c d A B C D <;> try simp only [yL] at hc)) | (refine yA ?_; intro A a; simp only [↓yG, Nat.reduceEqDiff, ↓reduceIte, g22]; refine yB (a ?_); clear a A) | (refine yD ?_; simp only [gresults, ↓yG, Nat.reduceEqDiff, ↓reduceIte, Option.bind_some, gld_1, gld_n, g22]; refine ⟨_, rfl, ?_⟩; simp only [gone]) | refine zA ?_ | refine zB ?_ | refine zF ?_)
    exact hPost _
  | true =>
  rw [hv] at hPost
  by_cases h0 : l = []
  · have h0' := eq_true h0
    have hb : (l == []) = true := by simp [h0]
    rw [hb] at hPost
    simp only [Bool.not_true, Bool.and_false, Bool.false_and] at hPost
    repeat' (first | (exfalso; omega) | refine zn ?_ | refine zK rfl ?_ | refine zP rfl ?_ | ((first | refine zm ?_ | skip); intro _; intros; simp (disch := first | exact zd | fail) only [↓yS, yT, ↓reduceIte, Nat.reduceEqDiff, Nat.reduceAdd, Nat.reduceMul, reduceCtorEq, Int.reduceToNat, g22, neE, h0', not_true_eq_false, decide_false]; first | (rename_i K k; refine yC (k _ _ ?_); clear k K) | (rename_i A B C D a b c d; (first | refine zX (a ?_) | refine zY (b ?_) | refine zZ (fun hc => c ?_) (fun hc => d ?_)) <;> clear a b c d A B C D <;> try simp only [yL] at hc)) | (refine yA ?_; intro A a; simp only [↓yG, Nat.reduceEqDiff, ↓reduceIte, g22, neE, h0', not_true_eq_false, decide_false]; refine yB (a ?_); clear a A) | (refine yD ?_; simp only [gresults, ↓yG, Nat.reduceEqDiff, ↓reduceIte, Option.bind_some, gld_1, gld_n, g22, neE, h0', not_true_eq_false, decide_false]; refine ⟨_, rfl, ?_⟩; simp only [gone]) | refine zA ?_ | refine zB ?_ | refine zF ?_)
    exact hPost _
  have h0' := eq_false h0
  have hb : (l == []) = false := by simp [h0]
  rw [hb] at hPost
  have hlp := List.length_pos_iff.2 h0
  have hat0 : ∀ k, gix none (.string (strB l)) (.int k 0) = some (.int .u8 (l[0]!.toNat : Nat)) := fun k => strB_at (k := k) (j := 0) hlp
  have hatn : ∀ k, gix none (.string (strB l)) (.int k ((l.length : Int) - 1)) = some (.int .u8 (l[l.length - 1]!.toNat : Nat)) := fun k => by
    have h1 : (l.length : Int) - 1 = ((l.length - 1 : Nat) : Int) := by omega
    rw [h1]; exact strB_at (by omega)
  have hls := strB_size l
  by_cases h1 : l[0]! = 32
  · have h1' := eq_true h1
    have hb1 : (l[0]! == 32) = true := by simp [h1]
    rw [hb1] at hPost
    simp only [Bool.not_true, Bool.and_false, Bool.false_and] at hPost
    repeat' (first | (exfalso; omega) | refine zn ?_ | refine zK rfl ?_ | refine zP rfl ?_ | ((first | refine zm ?_ | skip); intro _; intros; simp (disch := first | exact zd | fail) only [↓yS, yT, ↓reduceIte, Nat.reduceEqDiff, Nat.reduceAdd, Nat.reduceMul, reduceCtorEq, Int.reduceToNat, g22, neE, h0', not_false_eq_true, decide_true, hat0, by32, h1', not_true_eq_false, decide_false]; first | (rename_i K k; refine yC (k _ _ ?_); clear k K) | (rename_i A B C D a b c d; (first | refine zX (a ?_) | refine zY (b ?_) | refine zZ (fun hc => c ?_) (fun hc => d ?_)) <;> clear a b c d A B C D <;> try simp only [yL] at hc)) | (refine yA ?_; intro A a; simp only [↓yG, Nat.reduceEqDiff, ↓reduceIte, g22, neE, h0', not_false_eq_true, decide_true, hat0, by32, h1', not_true_eq_false, decide_false]; refine yB (a ?_); clear a A) | (refine yD ?_; simp only [gresults, ↓yG, Nat.reduceEqDiff, ↓reduceIte, Option.bind_some, gld_1, gld_n, g22, neE, h0', not_false_eq_true, decide_true, hat0, by32, h1', not_true_eq_false, decide_false]; refine ⟨_, rfl, ?_⟩; simp only [gone]) | refine zA ?_ | refine zB ?_ | refine zF ?_)
    exact hPost _
  have h1' := eq_false h1
  have hb1 : (l[0]! == 32) = false := beq_eq_false_iff_ne.2 h1
  rw [hb1] at hPost
  by_cases h2 : l[l.length - 1]! = 32
  · have h2' := eq_true h2
    have hb2 : (l[l.length - 1]! == 32) = true := by simp [h2]
    rw [hb2] at hPost
    simp only [Bool.not_true, Bool.and_false, Bool.false_and] at hPost
    repeat' (first | (exfalso; omega) | refine zn ?_ | refine zK rfl ?_ | refine zP rfl ?_ | ((first | refine zm ?_ | skip); intro _; intros; simp (disch := first | exact zd | fail) only [↓yS, yT, ↓reduceIte, Nat.reduceEqDiff, Nat.reduceAdd, Nat.reduceMul, reduceCtorEq, Int.reduceToNat, g22, neE, h0', not_false_eq_true, decide_true, hat0, by32, h1', not_true_eq_false, decide_false, hls, hatn, h2']; first | (rename_i K k; refine yC (k _ _ ?_); clear k K) | (rename_i A B C D a b c d; (first | refine zX (a ?_) | refine zY (b ?_) | refine zZ (fun hc => c ?_) (fun hc => d ?_)) <;> clear a b c d A B C D <;> try simp only [yL] at hc)) | (refine yA ?_; intro A a; simp only [↓yG, Nat.reduceEqDiff, ↓reduceIte, g22, neE, h0', not_false_eq_true, decide_true, hat0, by32, h1', not_true_eq_false, decide_false, hls, hatn, h2']; refine yB (a ?_); clear a A) | (refine yD ?_; simp only [gresults, ↓yG, Nat.reduceEqDiff, ↓reduceIte, Option.bind_some, gld_1, gld_n, g22, neE, h0', not_false_eq_true, decide_true, hat0, by32, h1', not_true_eq_false, decide_false, hls, hatn, h2']; refine ⟨_, rfl, ?_⟩; simp only [gone]) | refine zA ?_ | refine zB ?_ | refine zF ?_)
    exact hPost _
  have h2' := eq_false h2
  have hb2 : (l[l.length - 1]! == 32) = false := beq_eq_false_iff_ne.2 h2
  rw [hb2] at hPost
  repeat' (first | (exfalso; omega) | refine zn ?_ | refine zK rfl ?_ | refine zP rfl ?_ | ((first | refine zm ?_ | skip); intro _; intros; simp (disch := first | exact zd | fail) only [↓yS, yT, ↓reduceIte, Nat.reduceEqDiff, Nat.reduceAdd, Nat.reduceMul, reduceCtorEq, Int.reduceToNat, g22, neE, h0', not_false_eq_true, decide_true, hat0, by32, h1', not_true_eq_false, decide_false, hls, hatn, h2']; first | (rename_i K k; refine yC (k _ _ ?_); clear k K) | (rename_i A B C D a b c d; (first | refine zX (a ?_) | refine zY (b ?_) | refine zZ (fun hc => c ?_) (fun hc => d ?_)) <;> clear a b c d A B C D <;> try simp only [yL] at hc)) | (refine yA ?_; intro A a; simp only [↓yG, Nat.reduceEqDiff, ↓reduceIte, g22, neE, h0', not_false_eq_true, decide_true, hat0, by32, h1', not_true_eq_false, decide_false, hls, hatn, h2']; refine yB (a ?_); clear a A) | (refine yD ?_; simp only [gresults, ↓yG, Nat.reduceEqDiff, ↓reduceIte, Option.bind_some, gld_1, gld_n, g22, neE, h0', not_false_eq_true, decide_true, hat0, by32, h1', not_true_eq_false, decide_false, hls, hatn, h2']; refine ⟨_, rfl, ?_⟩; simp only [gone]) | refine zA ?_ | refine zB ?_ | refine zF ?_)
  intro K' hK'; refine G1_call (by simp only [gtarget, ↓GArg.ev, ↓evs, ↓Tr.get_set, Nat.reduceEqDiff, if_true, if_false, ↓reduceIte, Option.map_some]; rfl) (one_of (cont_ok hl (by rfl) _)) fun r2 H2 hq => hK' _ _ ?_
  obtain ⟨rfl, rfl⟩ := hq
  cases hd : dblF l with
  | true =>
    rw [hd] at hPost
    simp only [Bool.not_true, Bool.and_false, Bool.false_and] at hPost
    repeat' (first | (exfalso; omega) | refine zn ?_ | refine zK rfl ?_ | refine zP rfl ?_ | ((first | refine zm ?_ | skip); intro _; intros; simp (disch := first | exact zd | fail) only [↓yS, yT, ↓reduceIte, Nat.reduceEqDiff, Nat.reduceAdd, Nat.reduceMul, reduceCtorEq, Int.reduceToNat, g22]; first | (rename_i K k; refine yC (k _ _ ?_); clear k K) | (rename_i A B C D a b c d; (first | refine zX (a ?_) | refine zY (b ?_) | refine zZ (fun hc => c ?_) (fun hc => d ?_)) <;> clear a b c d A B C D <;> try simp only [yL] at hc)) | (refine yA ?_; intro A a; simp only [↓yG, Nat.reduceEqDiff, ↓reduceIte, g22]; refine yB (a ?_); clear a A) | (refine yD ?_; simp only [gresults, ↓yG, Nat.reduceEqDiff, ↓reduceIte, Option.bind_some, gld_1, gld_n, g22]; refine ⟨_, rfl, ?_⟩; simp only [gone]) | refine zA ?_ | refine zB ?_ | refine zF ?_)
    exact hPost _
  | false =>
    rw [hd] at hPost
    simp only [Bool.not_false, Bool.and_true, Bool.true_and] at hPost
    have hlc : ((l.length : Int) ≤ 400) = (l.length ≤ 400) := by apply propext; omega
    repeat' (first | (exfalso; omega) | refine zn ?_ | refine zK rfl ?_ | refine zP rfl ?_ | ((first | refine zm ?_ | skip); intro _; intros; simp (disch := first | exact zd | fail) only [↓yS, yT, ↓reduceIte, Nat.reduceEqDiff, Nat.reduceAdd, Nat.reduceMul, reduceCtorEq, Int.reduceToNat, g22, hls]; first | (rename_i K k; refine yC (k _ _ ?_); clear k K) | (rename_i A B C D a b c d; (first | refine zX (a ?_) | refine zY (b ?_) | refine zZ (fun hc => c ?_) (fun hc => d ?_)) <;> clear a b c d A B C D <;> try simp only [yL] at hc)) | (refine yA ?_; intro A a; simp only [↓yG, Nat.reduceEqDiff, ↓reduceIte, g22, hls]; refine yB (a ?_); clear a A) | (refine yD ?_; simp only [gresults, ↓yG, Nat.reduceEqDiff, ↓reduceIte, Option.bind_some, gld_1, gld_n, g22, hls]; refine ⟨_, rfl, ?_⟩; simp only [gone]) | refine zA ?_ | refine zB ?_ | refine zF ?_)
    all_goals first
      | (rw [show decide ((l.length : Int) ≤ 400) = decide (l.length ≤ 400) from by simp only [hlc]]; exact hPost _)
theorem rphrase_ok {l : List UInt8} (hl : l.length ≤ 16777216) (H : GHeap) : gev G 27 [.string (strB l)] H = some (.bool (phrB l), H) := by
  refine gev_GWP (f := 27) rfl rfl rfl (fun Post hPost => ?_) H
  unfold phrB at hPost
  simp only [frameOf, Nat.reduceAdd]
  repeat' (first | refine zn ?_ | refine zK rfl ?_ | refine zP rfl ?_ | ((first | refine zm ?_ | skip); intro _; intros; simp (disch := first | exact zd | fail) only [↓yS, yT, ↓reduceIte, Nat.reduceEqDiff, Nat.reduceAdd, Nat.reduceMul, reduceCtorEq, Int.reduceToNat, g27]; first | (rename_i K k; refine yC (k _ _ ?_); clear k K) | (rename_i A B C D a b c d; (first | refine zX (a ?_) | refine zY (b ?_) | refine zZ (fun hc => c ?_) (fun hc => d ?_)) <;> clear a b c d A B C D <;> try simp only [yL] at hc)) | (refine yA ?_; intro A a; simp only [↓yG, Nat.reduceEqDiff, ↓reduceIte, g27]; refine yB (a ?_); clear a A) | (refine yD ?_; simp only [gresults, ↓yG, Nat.reduceEqDiff, ↓reduceIte, Option.bind_some, gld_1, gld_n, g27]; refine ⟨_, rfl, ?_⟩; simp only [gone]) | refine zA ?_ | refine zB ?_ | refine zF ?_)
  refine Gw_s fun K' hK' => G1_call (by simp only [gtarget, ↓GArg.ev, ↓evs, ↓Tr.get_set, Nat.reduceEqDiff, if_true, if_false, ↓reduceIte, Option.map_some]; rfl) (one_of (rvalid_ok (s := strB l) (by rw [strB_size]; omega) _)) fun r1 H1 hq => hK' _ _ ?_
  obtain ⟨rfl, rfl⟩ := hq
  cases hv : vldB (strB l) with
  | false =>
    rw [hv] at hPost
    simp only [Bool.false_and] at hPost
    repeat' (first | (exfalso; omega) | refine zn ?_ | refine zK rfl ?_ | refine zP rfl ?_ | ((first | refine zm ?_ | skip); intro _; intros; simp (disch := first | exact zd | fail) only [↓yS, yT, ↓reduceIte, Nat.reduceEqDiff, Nat.reduceAdd, Nat.reduceMul, reduceCtorEq, Int.reduceToNat, g27]; first | (rename_i K k; refine yC (k _ _ ?_); clear k K) | (rename_i A B C D a b c d; (first | refine zX (a ?_) | refine zY (b ?_) | refine zZ (fun hc => c ?_) (fun hc => d ?_)) <;> clear a b c d A B C D <;> try simp only [yL] at hc)) | (refine yA ?_; intro A a; simp only [↓yG, Nat.reduceEqDiff, ↓reduceIte, g27]; refine yB (a ?_); clear a A) | (refine yD ?_; simp only [gresults, ↓yG, Nat.reduceEqDiff, ↓reduceIte, Option.bind_some, gld_1, gld_n, g27]; refine ⟨_, rfl, ?_⟩; simp only [gone]) | refine zA ?_ | refine zB ?_ | refine zF ?_)
    exact hPost _
  | true =>
  rw [hv] at hPost
  by_cases h0 : l = []
  · have h0' := eq_true h0
    have hb : (l == []) = true := by simp [h0]
    rw [hb] at hPost
    simp only [Bool.not_true, Bool.and_false, Bool.false_and] at hPost
    repeat' (first | (exfalso; omega) | refine zn ?_ | refine zK rfl ?_ | refine zP rfl ?_ | ((first | refine zm ?_ | skip); intro _; intros; simp (disch := first | exact zd | fail) only [↓yS, yT, ↓reduceIte, Nat.reduceEqDiff, Nat.reduceAdd, Nat.reduceMul, reduceCtorEq, Int.reduceToNat, g27, eqE, h0', decide_true]; first | (rename_i K k; refine yC (k _ _ ?_); clear k K) | (rename_i A B C D a b c d; (first | refine zX (a ?_) | refine zY (b ?_) | refine zZ (fun hc => c ?_) (fun hc => d ?_)) <;> clear a b c d A B C D <;> try simp only [yL] at hc)) | (refine yA ?_; intro A a; simp only [↓yG, Nat.reduceEqDiff, ↓reduceIte, g27, eqE, h0', decide_true]; refine yB (a ?_); clear a A) | (refine yD ?_; simp only [gresults, ↓yG, Nat.reduceEqDiff, ↓reduceIte, Option.bind_some, gld_1, gld_n, g27, eqE, h0', decide_true]; refine ⟨_, rfl, ?_⟩; simp only [gone]) | refine zA ?_ | refine zB ?_ | refine zF ?_)
    exact hPost _
  have h0' := eq_false h0
  have hb : (l == []) = false := by simp [h0]
  rw [hb] at hPost
  have hlp := List.length_pos_iff.2 h0
  have hat0 : ∀ k, gix none (.string (strB l)) (.int k 0) = some (.int .u8 (l[0]!.toNat : Nat)) := fun k => strB_at (k := k) (j := 0) hlp
  have hatn : ∀ k, gix none (.string (strB l)) (.int k ((l.length : Int) - 1)) = some (.int .u8 (l[l.length - 1]!.toNat : Nat)) := fun k => by
    have h1 : (l.length : Int) - 1 = ((l.length - 1 : Nat) : Int) := by omega
    rw [h1]; exact strB_at (by omega)
  have hls := strB_size l
  by_cases h4 : 400 < l.length
  · have hd : decide (l.length ≤ 400) = false := decide_eq_false (by omega)
    rw [hd, Bool.and_false] at hPost
    repeat' (first | (exfalso; omega) | refine zn ?_ | refine zK rfl ?_ | refine zP rfl ?_ | ((first | refine zm ?_ | skip); intro _; intros; simp (disch := first | exact zd | fail) only [↓yS, yT, ↓reduceIte, Nat.reduceEqDiff, Nat.reduceAdd, Nat.reduceMul, reduceCtorEq, Int.reduceToNat, g27, eqE, h0', decide_false, hls]; first | (rename_i K k; refine yC (k _ _ ?_); clear k K) | (rename_i A B C D a b c d; (first | refine zX (a ?_) | refine zY (b ?_) | refine zZ (fun hc => c ?_) (fun hc => d ?_)) <;> clear a b c d A B C D <;> try simp only [yL] at hc)) | (refine yA ?_; intro A a; simp only [↓yG, Nat.reduceEqDiff, ↓reduceIte, g27, eqE, h0', decide_false, hls]; refine yB (a ?_); clear a A) | (refine yD ?_; simp only [gresults, ↓yG, Nat.reduceEqDiff, ↓reduceIte, Option.bind_some, gld_1, gld_n, g27, eqE, h0', decide_false, hls]; refine ⟨_, rfl, ?_⟩; simp only [gone]) | refine zA ?_ | refine zB ?_ | refine zF ?_)
    exact hPost _
  have hd : decide (l.length ≤ 400) = true := decide_eq_true (by omega)
  rw [hd, Bool.and_true] at hPost
  by_cases h1 : l[0]! = 32
  · have h1' := eq_true h1
    have hb1 : (l[0]! == 32) = true := by simp [h1]
    rw [hb1] at hPost
    simp only [Bool.not_true, Bool.and_false, Bool.false_and] at hPost
    repeat' (first | (exfalso; omega) | refine zn ?_ | refine zK rfl ?_ | refine zP rfl ?_ | ((first | refine zm ?_ | skip); intro _; intros; simp (disch := first | exact zd | fail) only [↓yS, yT, ↓reduceIte, Nat.reduceEqDiff, Nat.reduceAdd, Nat.reduceMul, reduceCtorEq, Int.reduceToNat, g27, eqE, h0', decide_false, hls, hat0, by32, h1', decide_true]; first | (rename_i K k; refine yC (k _ _ ?_); clear k K) | (rename_i A B C D a b c d; (first | refine zX (a ?_) | refine zY (b ?_) | refine zZ (fun hc => c ?_) (fun hc => d ?_)) <;> clear a b c d A B C D <;> try simp only [yL] at hc)) | (refine yA ?_; intro A a; simp only [↓yG, Nat.reduceEqDiff, ↓reduceIte, g27, eqE, h0', decide_false, hls, hat0, by32, h1', decide_true]; refine yB (a ?_); clear a A) | (refine yD ?_; simp only [gresults, ↓yG, Nat.reduceEqDiff, ↓reduceIte, Option.bind_some, gld_1, gld_n, g27, eqE, h0', decide_false, hls, hat0, by32, h1', decide_true]; refine ⟨_, rfl, ?_⟩; simp only [gone]) | refine zA ?_ | refine zB ?_ | refine zF ?_)
    exact hPost _
  have h1' := eq_false h1
  have hb1 : (l[0]! == 32) = false := beq_eq_false_iff_ne.2 h1
  rw [hb1] at hPost
  by_cases h2 : l[l.length - 1]! = 32
  · have h2' := eq_true h2
    have hb2 : (l[l.length - 1]! == 32) = true := by simp [h2]
    rw [hb2] at hPost
    simp only [Bool.not_true, Bool.and_false, Bool.false_and] at hPost
    repeat' (first | (exfalso; omega) | refine zn ?_ | refine zK rfl ?_ | refine zP rfl ?_ | ((first | refine zm ?_ | skip); intro _; intros; simp (disch := first | exact zd | fail) only [↓yS, yT, ↓reduceIte, Nat.reduceEqDiff, Nat.reduceAdd, Nat.reduceMul, reduceCtorEq, Int.reduceToNat, g27, eqE, h0', decide_false, hls, hat0, by32, h1', decide_true, hatn, h2']; first | (rename_i K k; refine yC (k _ _ ?_); clear k K) | (rename_i A B C D a b c d; (first | refine zX (a ?_) | refine zY (b ?_) | refine zZ (fun hc => c ?_) (fun hc => d ?_)) <;> clear a b c d A B C D <;> try simp only [yL] at hc)) | (refine yA ?_; intro A a; simp only [↓yG, Nat.reduceEqDiff, ↓reduceIte, g27, eqE, h0', decide_false, hls, hat0, by32, h1', decide_true, hatn, h2']; refine yB (a ?_); clear a A) | (refine yD ?_; simp only [gresults, ↓yG, Nat.reduceEqDiff, ↓reduceIte, Option.bind_some, gld_1, gld_n, g27, eqE, h0', decide_false, hls, hat0, by32, h1', decide_true, hatn, h2']; refine ⟨_, rfl, ?_⟩; simp only [gone]) | refine zA ?_ | refine zB ?_ | refine zF ?_)
    exact hPost _
  have h2' := eq_false h2
  have hb2 : (l[l.length - 1]! == 32) = false := beq_eq_false_iff_ne.2 h2
  rw [hb2] at hPost
  simp only [Bool.not_false, Bool.and_true, Bool.true_and] at hPost
  repeat' (first | (exfalso; omega) | refine zn ?_ | refine zK rfl ?_ | refine zP rfl ?_ | ((first | refine zm ?_ | skip); intro _; intros; simp (disch := first | exact zd | fail) only [↓yS, yT, ↓reduceIte, Nat.reduceEqDiff, Nat.reduceAdd, Nat.reduceMul, reduceCtorEq, Int.reduceToNat, g27, eqE, h0', decide_false, hls, hat0, by32, h1', decide_true, hatn, h2']; first | (rename_i K k; refine yC (k _ _ ?_); clear k K) | (rename_i A B C D a b c d; (first | refine zX (a ?_) | refine zY (b ?_) | refine zZ (fun hc => c ?_) (fun hc => d ?_)) <;> clear a b c d A B C D <;> try simp only [yL] at hc)) | (refine yA ?_; intro A a; simp only [↓yG, Nat.reduceEqDiff, ↓reduceIte, g27, eqE, h0', decide_false, hls, hat0, by32, h1', decide_true, hatn, h2']; refine yB (a ?_); clear a A) | (refine yD ?_; simp only [gresults, ↓yG, Nat.reduceEqDiff, ↓reduceIte, Option.bind_some, gld_1, gld_n, g27, eqE, h0', decide_false, hls, hat0, by32, h1', decide_true, hatn, h2']; refine ⟨_, rfl, ?_⟩; simp only [gone]) | refine zA ?_ | refine zB ?_ | refine zF ?_)
  refine GW_loop (fun k fr H2 => ∃ (j : Nat), k = l.length - j ∧ 1 ≤ j ∧ j ≤ l.length ∧ fr.get 0 = some (.string (strB l)) ∧ fr.get 3 = some (.int .i64 j) ∧ ∀ i, i + 1 < j → ¬ (l[i]! = 32 ∧ l[i + 1]! = 32)) ?_ (l.length - 1) ?_
  rotate_left
  · refine ⟨1, by omega, by omega, by omega, ?_⟩
    simp only [↓yG, Nat.reduceEqDiff, ↓reduceIte, Int.natCast_add, Int.cast_ofNat_Int, Int.natCast_zero, true_and, and_true, Option.some.injEq, Value.int.injEq]
    exact fun i h => by omega
  rintro k fr H2 ⟨j, rfl, hj1, hj, f0, f3, hno⟩ J hJ
  by_cases hj2 : j < l.length
  · have ej := fun k => strB_at (k := k) hj2
    have ej1 : ∀ k, gix none (.string (strB l)) (.int k ((j : Int) - 1)) = some (.int .u8 (l[j - 1]!.toNat : Nat)) := fun k => by
      have h1 : (j : Int) - 1 = ((j - 1 : Nat) : Int) := by omega
      rw [h1]; exact strB_at (by omega)
    have hnx : ¬ (l[j - 1]! = 32 ∧ l[j]! = 32) → ∀ i, i + 1 < j + 1 → ¬ (l[i]! = 32 ∧ l[i + 1]! = 32) := fun h i hi => by
      rcases Nat.lt_or_eq_of_le (Nat.le_of_lt_succ hi) with h3 | h3
      · exact hno i h3
      · have e1 : i = j - 1 := by omega
        have e2 : i + 1 = j := h3
        rw [e2, e1]; exact h
    by_cases c1 : l[j]! = 32
    · have c1' := eq_true c1
      by_cases c2 : l[j - 1]! = 32
      · have c2' := eq_true c2
        have hdt : dblF l = true := (dblF_iff l).2 ⟨j - 1, by omega, c2, by rw [show j - 1 + 1 = j by omega]; exact c1⟩
        rw [hdt] at hPost
        repeat' (first | (exfalso; omega) | refine zn ?_ | refine zK rfl ?_ | refine zP rfl ?_ | ((first | refine zm ?_ | skip); intro _; intros; simp (disch := first | exact zd | fail) only [↓yS, yT, ↓reduceIte, Nat.reduceEqDiff, Nat.reduceAdd, Nat.reduceMul, reduceCtorEq, Int.reduceToNat, g27, f0, f3, hls, ej, ej1, by32, c1', c2', decide_true]; first | (rename_i K k; refine yC (k _ _ ?_); clear k K) | (rename_i A B C D a b c d; (first | refine zX (a ?_) | refine zY (b ?_) | refine zZ (fun hc => c ?_) (fun hc => d ?_)) <;> clear a b c d A B C D <;> try simp only [yL] at hc)) | (refine yA ?_; intro A a; simp only [↓yG, Nat.reduceEqDiff, ↓reduceIte, g27, f0, f3, hls, ej, ej1, by32, c1', c2', decide_true]; refine yB (a ?_); clear a A) | (refine yD ?_; simp only [gresults, ↓yG, Nat.reduceEqDiff, ↓reduceIte, Option.bind_some, gld_1, gld_n, g27, f0, f3, hls, ej, ej1, by32, c1', c2', decide_true]; refine ⟨_, rfl, ?_⟩; simp only [gone]) | refine zA ?_ | refine zB ?_ | refine zF ?_)
        exact hPost _
      · have c2' := eq_false c2
        repeat' (first | (exfalso; omega) | refine zn ?_ | refine zK rfl ?_ | refine zP rfl ?_ | ((first | refine zm ?_ | skip); intro _; intros; simp (disch := first | exact zd | fail) only [↓yS, yT, ↓reduceIte, Nat.reduceEqDiff, Nat.reduceAdd, Nat.reduceMul, reduceCtorEq, Int.reduceToNat, g27, f0, f3, hls, ej, ej1, by32, c1', c2', decide_true, decide_false]; first | (rename_i K k; refine yC (k _ _ ?_); clear k K) | (rename_i A B C D a b c d; (first | refine zX (a ?_) | refine zY (b ?_) | refine zZ (fun hc => c ?_) (fun hc => d ?_)) <;> clear a b c d A B C D <;> try simp only [yL] at hc)) | (refine yA ?_; intro A a; simp only [↓yG, Nat.reduceEqDiff, ↓reduceIte, g27, f0, f3, hls, ej, ej1, by32, c1', c2', decide_true, decide_false]; refine yB (a ?_); clear a A) | (refine yD ?_; simp only [gresults, ↓yG, Nat.reduceEqDiff, ↓reduceIte, Option.bind_some, gld_1, gld_n, g27, f0, f3, hls, ej, ej1, by32, c1', c2', decide_true, decide_false]; refine ⟨_, rfl, ?_⟩; simp only [gone]) | refine zA ?_ | refine zB ?_ | refine zF ?_)
        refine hJ _ _ ⟨l.length - (j + 1), by omega, j + 1, rfl, by omega, by omega, ?_⟩
        simp only [↓yG, Nat.reduceEqDiff, ↓reduceIte, Int.natCast_add, Int.cast_ofNat_Int, Int.natCast_zero, true_and, and_true, Option.some.injEq, Value.int.injEq, f0]
        exact hnx fun h => c2 h.1
    · have c1' := eq_false c1
      repeat' (first | (exfalso; omega) | refine zn ?_ | refine zK rfl ?_ | refine zP rfl ?_ | ((first | refine zm ?_ | skip); intro _; intros; simp (disch := first | exact zd | fail) only [↓yS, yT, ↓reduceIte, Nat.reduceEqDiff, Nat.reduceAdd, Nat.reduceMul, reduceCtorEq, Int.reduceToNat, g27, f0, f3, hls, ej, ej1, by32, c1', decide_false]; first | (rename_i K k; refine yC (k _ _ ?_); clear k K) | (rename_i A B C D a b c d; (first | refine zX (a ?_) | refine zY (b ?_) | refine zZ (fun hc => c ?_) (fun hc => d ?_)) <;> clear a b c d A B C D <;> try simp only [yL] at hc)) | (refine yA ?_; intro A a; simp only [↓yG, Nat.reduceEqDiff, ↓reduceIte, g27, f0, f3, hls, ej, ej1, by32, c1', decide_false]; refine yB (a ?_); clear a A) | (refine yD ?_; simp only [gresults, ↓yG, Nat.reduceEqDiff, ↓reduceIte, Option.bind_some, gld_1, gld_n, g27, f0, f3, hls, ej, ej1, by32, c1', decide_false]; refine ⟨_, rfl, ?_⟩; simp only [gone]) | refine zA ?_ | refine zB ?_ | refine zF ?_)
      refine hJ _ _ ⟨l.length - (j + 1), by omega, j + 1, rfl, by omega, by omega, ?_⟩
      simp only [↓yG, Nat.reduceEqDiff, ↓reduceIte, Int.natCast_add, Int.cast_ofNat_Int, Int.natCast_zero, true_and, and_true, Option.some.injEq, Value.int.injEq, f0]
      exact hnx fun h => c1 h.2
  · obtain rfl : j = l.length := by omega
    have hdf : dblF l = false := by
      cases h : dblF l with
      | false => rfl
      | true =>
        obtain ⟨i, k1, k2, k3⟩ := (dblF_iff l).1 h
        exact absurd ⟨k2, k3⟩ (hno i k1)
    rw [hdf] at hPost
    repeat' (first | (exfalso; omega) | refine zn ?_ | refine zK rfl ?_ | refine zP rfl ?_ | ((first | refine zm ?_ | skip); intro _; intros; simp (disch := first | exact zd | fail) only [↓yS, yT, ↓reduceIte, Nat.reduceEqDiff, Nat.reduceAdd, Nat.reduceMul, reduceCtorEq, Int.reduceToNat, g27, f0, f3, hls]; first | (rename_i K k; refine yC (k _ _ ?_); clear k K) | (rename_i A B C D a b c d; (first | refine zX (a ?_) | refine zY (b ?_) | refine zZ (fun hc => c ?_) (fun hc => d ?_)) <;> clear a b c d A B C D <;> try simp only [yL] at hc)) | (refine yA ?_; intro A a; simp only [↓yG, Nat.reduceEqDiff, ↓reduceIte, g27, f0, f3, hls]; refine yB (a ?_); clear a A) | (refine yD ?_; simp only [gresults, ↓yG, Nat.reduceEqDiff, ↓reduceIte, Option.bind_some, gld_1, gld_n, g27, f0, f3, hls]; refine ⟨_, rfl, ?_⟩; simp only [gone]) | refine zA ?_ | refine zB ?_ | refine zF ?_)
    exact hPost _
end Go.Gh
