/-
  rowbreak: the texts of rows: token.Len, token.Join, Rows, walked; the law Words.
-/
import Derived.Test.YtbhgpiakeimmlaaDoorRbWP
import Derived.Test.YtbhgpiakeimmlaaDoorRbWD
import Derived.Lib.SpaceUEq
import Derived.Lib.Join
namespace Go.Gh
set_option linter.unusedSimpArgs false
set_option linter.unusedVariables false
open Go.RowKit
set_option maxRecDepth 4000

theorem rnsAt_size (s : ByteArray) : ∀ (k pos : Nat), s.size - pos ≤ k → s.size - pos ≤ 4 * (rnsAt s pos).length
  | 0, pos, h => by omega
  | k + 1, pos, h => by
    by_cases hp : pos < s.size
    · have hw := Go.Lib.width_pos s pos
      have hw4 : (Utf8.decode s pos).2 ≤ 4 := by rw [Go.Lib.decode_at]; exact (Go.Lib.decodeN_conts _ _ _ _ _).2.2.2
      rw [rnsAt_yes hp]
      have := rnsAt_size s k (pos + (Utf8.decode s pos).2) (by omega)
      simp only [List.length_cons]; omega
    · omega
theorem tkN_ge (x : Tk) : x.t.length ≤ 4 * tkN x := by
  have := rnsAt_size (strB x.t) _ 0 (Nat.le_refl _)
  rw [strB_size] at this
  exact this
/-- the texts of words, joined -/
def jn (l : List Tk) : List UInt8 := Go.Lib.join (l.map Tk.t) [32]
def jt (l : List Tk) : List UInt8 := l.flatMap fun x => 32 :: x.t
theorem jn_cons (x : Tk) (r : List Tk) : jn (x :: r) = x.t ++ jt r := by
  unfold jn jt
  rw [List.map_cons, Go.Lib.join_cons]
  simp [Go.Lib.joinTail, List.flatMap, Function.comp_def]
theorem jt_eq {l : List Tk} (h : l ≠ []) : jt l = 32 :: jn l := by
  cases l with
  | nil => exact absurd rfl h
  | cons x r => rw [jn_cons]; simp [jt]
theorem jn_append {a b : List Tk} (ha : a ≠ []) (hb : b ≠ []) : jn (a ++ b) = jn a ++ 32 :: jn b := by
  cases a with
  | nil => exact absurd rfl ha
  | cons x r =>
    rw [List.cons_append, jn_cons, jn_cons, ← jt_eq hb, List.append_assoc]
    congr 1
    simp [jt]
theorem jt_len : ∀ l : List Tk, (jt l).length ≤ 4 * (l.map tkN).sum + l.length
  | [] => by simp [jt]
  | x :: l => by
    have ih := jt_len l
    have h1 := tkN_ge x
    have e : jt (x :: l) = 32 :: x.t ++ jt l := by simp [jt]
    rw [e]
    simp only [List.length_append, List.length_cons, List.map_cons, List.sum_cons]
    omega
theorem jn_len (l : List Tk) : (jn l).length ≤ 4 * (l.map tkN).sum + l.length := by
  cases l with
  | nil => simp [jn, Go.Lib.join_nil]
  | cons x r =>
    have := jt_len (x :: r)
    rw [jt_eq (by simp)] at this
    simp only [List.length_cons] at this ⊢
    omega
def seg (l : List Tk) (a b : Nat) : List Tk := (l.drop a).take (b - a)
theorem seg_len {l : List Tk} {a b : Nat} (h : b ≤ l.length) : (seg l a b).length = b - a := by simp [seg]; omega
theorem seg_all {l : List Tk} {a b : Nat} (h : a ≤ b) : l.take b = l.take a ++ seg l a b := by
  unfold seg
  obtain ⟨d, rfl⟩ : ∃ d, b = a + d := ⟨b - a, by omega⟩
  rw [Nat.add_sub_cancel_left, List.take_add]
theorem seg_sum {l : List Tk} {a b : Nat} (h : a ≤ b) : ((seg l a b).map tkN).sum = smN l b - smN l a := by
  have h1 := congrArg (fun x => (x.map tkN).sum) (seg_all (l := l) h)
  simp only [List.map_append, List.sum_append] at h1
  unfold smN
  omega
theorem smN_seg {l : List Tk} {a b k : Nat} (hk : a + k ≤ b) : smN (seg l a b) k = smN l (a + k) - smN l a := by
  have h := seg_sum (l := l) (a := a) (b := a + k) (by omega)
  unfold seg at h
  rw [Nat.add_sub_cancel_left] at h
  rw [← h]
  unfold smN seg
  rw [List.take_take, Nat.min_eq_left (by omega)]
theorem Tk_seg (l : List Tk) (a b : Nat) : ((TkC l).drop (a * 2)).take ((b - a) * 2) = TkC (seg l a b) := by
  have hd : ∀ (l : List Tk) (a : Nat), (TkC l).drop (a * 2) = TkC (l.drop a) := by
    intro l
    induction l with
    | nil => intro a; simp [TkC]
    | cons x l ih =>
      intro a
      cases a with
      | zero => simp
      | succ a =>
        have e : TkC (x :: l) = tkC x ++ TkC l := by simp [TkC]
        rw [e, List.drop_append, List.drop_eq_nil_of_le (by rw [tkC_len]; omega), List.nil_append, tkC_len, List.drop_succ_cons, ← ih a]
        congr 1; omega
  rw [hd, Tk_take]; rfl
theorem KR.seg {H : GHeap} (hw : H.wf) {v : Value} {l : List Tk} (h : KR H v l) {a b : Nat} (hab : a ≤ b) (hb : b ≤ l.length) :
    ∃ v', (∀ H', Same H H' → gslice (.sl 2) H' v (some (.int .i64 (a : Int))) (some (.int .i64 (b : Int))) none = some v') ∧ KR H v' (Go.Gh.seg l a b) := by
  obtain ⟨v', e, h1, _⟩ := h.cut (k := .i64) (a := a) (b := b) (by omega) (by omega) (by omega)
  refine ⟨v', fun H' hS => by rw [h.gslice_same hw hS]; exact e, ?_⟩
  simp only [Int.toNat_natCast] at h1
  rw [Tk_seg] at h1
  unfold KR
  rw [seg_len hb]; exact h1
/-! ### token.Len -/
/-- words whose texts are of the repertoire -/
def VK (l : List Tk) : Prop := ∀ x ∈ l, tk1 x = 0
theorem tlen_ok {H : GHeap} (hw : H.wf) {v : Value} {l : List Tk} (hv : KR H v l) (hsh : ShK l) (hvk : VK l) (hle : l.length ≤ 200) {a b : Nat} (hab : a < b) (hb : b ≤ l.length) :
    ∃ r H', gev G 23 [v, .int .i64 a, .int .i64 b] H = some (r, H') ∧ (r = .int .i64 (lenR l a b) ∧ Same H H') := by
  refine gev_GW (f := 23) rfl fun Post hPost => ?_
  have hlim := hw.1
  have hsl := hv.isSl
  obtain ⟨v', hcut, hk'⟩ := hv.seg hw (a := a) (b := b) (by omega) hb
  have hsl' := hk'.isSl
  have hsgl := seg_len (l := l) (a := a) hb
  rw [hsgl] at hsl'
  have hcut0 := hcut _ (Same.refl hw)
  have hmem : ∀ x ∈ seg l a b, x ∈ l := fun x hx => List.mem_of_mem_drop (List.mem_of_mem_take hx)
  have hmx : max (0 : Int) ((b : Int) - a - 1) = (b : Int) - a - 1 := by omega
  have hN : ∀ x ∈ seg l a b, tkN x ≤ 140737488355328 := fun x hx => Nat.le_trans (tkN_le x) (hsh x (hmem x hx))
  have hlr : lenR l a b = ((b : Int) - a - 1) + smN (seg l a b) (b - a) := by
    have h1 := smN_seg (l := l) (a := a) (b := b) (k := b - a) (by omega)
    have h2 := smN_le' (l := l) (k := a) (j := b) (by omega)
    rw [show a + (b - a) = b by omega] at h1
    unfold lenR; omega
  simp only [frameOf, Nat.reduceAdd]
  repeat' (first | (exfalso; omega) | refine zA ?_ | refine zB ?_ | refine zC ?_ | refine zD ?_ | refine zE ?_ | refine zF ?_ | refine zG ?_ | refine zH ?_ | refine zI ?_ | refine zJ ?_ | refine zK rfl ?_ | refine zL ?_ | refine zM ?_ | refine zN ?_ | refine zO ?_ | refine zP rfl ?_ | refine zQ ?_ | ((first | refine zR ?_ | refine zS ?_ | refine zT ?_ | skip); intro K k; simp (disch := (first | (simp only [yD2, beq_self_eq_true, Nat.reduceLT, Nat.reduceAdd]; done) | ((fail_if_success (apply Bool.eq_iff_iff.2)); first | omega | (simp only [yD2, beq_self_eq_true, Nat.reduceLT, Nat.reduceAdd] <;> omega)) | fail)) only [↓yS, yT, ↓reduceIte, Nat.reduceEqDiff, Nat.reduceAdd, Nat.reduceMul, reduceCtorEq, Int.reduceToNat, g23, hsl.len, hmx, hcut0, hsl'.len]; refine yC (k _ _ ?_); clear k K) | ((first | refine zU ?_ | refine zV ?_ | refine zW ?_); intro A B C D a b c d; simp only [↓yG, Nat.reduceEqDiff, ↓reduceIte, g23, hsl.len, hmx, hcut0, hsl'.len]; (first | refine zX (a ?_) | refine zY (b ?_) | refine zZ (fun hc => c ?_) (fun hc => d ?_)) <;> clear a b c d A B C D <;> try simp only [yL] at hc) | (refine yA ?_; intro A a; simp only [↓yG, Nat.reduceEqDiff, ↓reduceIte, g23, hsl.len, hmx, hcut0, hsl'.len]; refine yB (a ?_); clear a A) | (refine yD ?_; simp only [gresults, ↓yG, Nat.reduceEqDiff, ↓reduceIte, Option.bind_some, gld_1, gld_n, g23, hsl.len, hmx, hcut0, hsl'.len]; refine ⟨_, rfl, ?_⟩; simp only [gone]))
  refine GW_loop (fun k fr H1 => ∃ (j : Nat), k = b - a - j ∧ j ≤ b - a ∧ fr.get 7 = some (.int .i64 (((b : Int) - a - 1) + smN (seg l a b) j)) ∧ fr.get 31 = some (v') ∧ fr.get 32 = some (.int .i64 (b - a : Nat)) ∧ fr.get 33 = some (.int .i64 j) ∧ Same H H1) ?_ (b - a) ?_
  rotate_left
  · refine ⟨0, by omega, by omega, ?_⟩
    simp only [↓yG, Nat.reduceEqDiff, ↓reduceIte, Int.natCast_add, Int.cast_ofNat_Int, Int.natCast_zero, true_and, and_true, Option.some.injEq, Value.int.injEq, smN_zero]
    first | exact ⟨by simp, Same.refl hw⟩ | exact Same.refl hw
  rintro k fr H1 ⟨j, rfl, hj, f7, f31, f32, f33, hS⟩ J hJ
  have hw1 := hS.wf
  have hlim1 := hw1.1
  by_cases hj1 : j < b - a
  · have hjl : j < (seg l a b).length := by omega
    have et := (hk'.later hw hS).rowN hjl
    have hm := mem_bangK hjl
    have hs1 := hsh _ (hmem _ hm)
    have hlnn := tkN_len (hvk _ (hmem _ hm))
    have hsc := smN_succ hjl
    have hb0 := smN_bd hN j
    have hb2 := hN _ hm
    have hb1 : j * 140737488355328 ≤ 200 * 140737488355328 := Nat.mul_le_mul_right _ (by omega)
    generalize (seg l a b)[j]! = x at *
    have x0 : ((H1.add (some (.cells [.string ⟨#[]⟩, .int .i64 0] 0 true))).put H1.len (.cells (tkC x) 0 true)).rd H1.len 0 = some (.string (strB x.t)) := by rw [rd_put_same]; rfl
    have hS2 : Same H1 ((H1.add (some (.cells [.string ⟨#[]⟩, .int .i64 0] 0 true))).put H1.len (.cells (tkC x) 0 true)) := (Same.refl hw1).new _ _
    repeat' (first | (exfalso; omega) | refine zA ?_ | refine zB ?_ | refine zC ?_ | refine zD ?_ | refine zE ?_ | refine zF ?_ | refine zG ?_ | refine zH ?_ | refine zI ?_ | refine zJ ?_ | refine zK rfl ?_ | refine zL ?_ | refine zM ?_ | refine zN ?_ | refine zO ?_ | refine zP rfl ?_ | refine zQ ?_ | ((first | refine zR ?_ | refine zS ?_ | refine zT ?_ | skip); intro K k; simp (disch := (first | (simp only [yD2, beq_self_eq_true, Nat.reduceLT, Nat.reduceAdd]; done) | ((fail_if_success (apply Bool.eq_iff_iff.2)); first | omega | (simp only [yD2, beq_self_eq_true, Nat.reduceLT, Nat.reduceAdd] <;> omega)) | fail)) only [↓yS, yT, ↓reduceIte, Nat.reduceEqDiff, Nat.reduceAdd, Nat.reduceMul, reduceCtorEq, Int.reduceToNat, g23, f7, f31, f32, f33, KN, hsl'.ia, et, x0]; refine yC (k _ _ ?_); clear k K) | ((first | refine zU ?_ | refine zV ?_ | refine zW ?_); intro A B C D a b c d; simp only [↓yG, Nat.reduceEqDiff, ↓reduceIte, g23, f7, f31, f32, f33, KN, hsl'.ia, et, x0]; (first | refine zX (a ?_) | refine zY (b ?_) | refine zZ (fun hc => c ?_) (fun hc => d ?_)) <;> clear a b c d A B C D <;> try simp only [yL] at hc) | (refine yA ?_; intro A a; simp only [↓yG, Nat.reduceEqDiff, ↓reduceIte, g23, f7, f31, f32, f33, KN, hsl'.ia, et, x0]; refine yB (a ?_); clear a A) | (refine yD ?_; simp only [gresults, ↓yG, Nat.reduceEqDiff, ↓reduceIte, Option.bind_some, gld_1, gld_n, g23, f7, f31, f32, f33, KN, hsl'.ia, et, x0]; refine ⟨_, rfl, ?_⟩; simp only [gone]))
    refine Gw_s fun K' hK' => G1_call (by simp only [gtarget, ↓GArg.ev, ↓evs, ↓Tr.get_set, Nat.reduceEqDiff, if_true, if_false, ↓reduceIte, Option.map_some, f7, f31, f32, f33]; rfl) (one_of (len_ok (s := strB x.t) (by rw [strB_size]; exact hs1) _)) fun r4 H4 hq => hK' _ _ ?_
    obtain ⟨rfl, rfl⟩ := hq
    rw [hlnn]
    have hval : ((b : Int) - a - 1) + (smN (seg l a b) j : Int) + (tkN x : Int) = ((b : Int) - a - 1) + (smN (seg l a b) (j + 1) : Int) := by rw [hsc]; omega
    repeat' (first | (exfalso; omega) | refine zA ?_ | refine zB ?_ | refine zC ?_ | refine zD ?_ | refine zE ?_ | refine zF ?_ | refine zG ?_ | refine zH ?_ | refine zI ?_ | refine zJ ?_ | refine zK rfl ?_ | refine zL ?_ | refine zM ?_ | refine zN ?_ | refine zO ?_ | refine zP rfl ?_ | refine zQ ?_ | ((first | refine zR ?_ | refine zS ?_ | refine zT ?_ | skip); intro K k; simp (disch := (first | (simp only [yD2, beq_self_eq_true, Nat.reduceLT, Nat.reduceAdd]; done) | ((fail_if_success (apply Bool.eq_iff_iff.2)); first | omega | (simp only [yD2, beq_self_eq_true, Nat.reduceLT, Nat.reduceAdd] <;> omega)) | fail)) only [↓yS, yT, ↓reduceIte, Nat.reduceEqDiff, Nat.reduceAdd, Nat.reduceMul, reduceCtorEq, Int.reduceToNat, g23, f7, f31, f32, f33, hval]; refine yC (k _ _ ?_); clear k K) | ((first | refine zU ?_ | refine zV ?_ | refine zW ?_); intro A B C D a b c d; simp only [↓yG, Nat.reduceEqDiff, ↓reduceIte, g23, f7, f31, f32, f33, hval]; (first | refine zX (a ?_) | refine zY (b ?_) | refine zZ (fun hc => c ?_) (fun hc => d ?_)) <;> clear a b c d A B C D <;> try simp only [yL] at hc) | (refine yA ?_; intro A a; simp only [↓yG, Nat.reduceEqDiff, ↓reduceIte, g23, f7, f31, f32, f33, hval]; refine yB (a ?_); clear a A) | (refine yD ?_; simp only [gresults, ↓yG, Nat.reduceEqDiff, ↓reduceIte, Option.bind_some, gld_1, gld_n, g23, f7, f31, f32, f33, hval]; refine ⟨_, rfl, ?_⟩; simp only [gone]))
    refine hJ _ _ ⟨b - a - (j + 1), by omega, j + 1, rfl, by omega, ?_⟩
    simp only [↓yG, Nat.reduceEqDiff, ↓reduceIte, Int.natCast_add, Int.cast_ofNat_Int, Int.natCast_zero, true_and, and_true, Option.some.injEq, Value.int.injEq, f31, f32]
    exact hS.trans hS2
  · obtain rfl : j = b - a := by omega
    repeat' (first | (exfalso; omega) | refine zA ?_ | refine zB ?_ | refine zC ?_ | refine zD ?_ | refine zE ?_ | refine zF ?_ | refine zG ?_ | refine zH ?_ | refine zI ?_ | refine zJ ?_ | refine zK rfl ?_ | refine zL ?_ | refine zM ?_ | refine zN ?_ | refine zO ?_ | refine zP rfl ?_ | refine zQ ?_ | ((first | refine zR ?_ | refine zS ?_ | refine zT ?_ | skip); intro K k; simp (disch := (first | (simp only [yD2, beq_self_eq_true, Nat.reduceLT, Nat.reduceAdd]; done) | ((fail_if_success (apply Bool.eq_iff_iff.2)); first | omega | (simp only [yD2, beq_self_eq_true, Nat.reduceLT, Nat.reduceAdd] <;> omega)) | fail)) only [↓yS, yT, ↓reduceIte, Nat.reduceEqDiff, Nat.reduceAdd, Nat.reduceMul, reduceCtorEq, Int.reduceToNat, g23, f7, f31, f32, f33]; refine yC (k _ _ ?_); clear k K) | ((first | refine zU ?_ | refine zV ?_ | refine zW ?_); intro A B C D a b c d; simp only [↓yG, Nat.reduceEqDiff, ↓reduceIte, g23, f7, f31, f32, f33]; (first | refine zX (a ?_) | refine zY (b ?_) | refine zZ (fun hc => c ?_) (fun hc => d ?_)) <;> clear a b c d A B C D <;> try simp only [yL] at hc) | (refine yA ?_; intro A a; simp only [↓yG, Nat.reduceEqDiff, ↓reduceIte, g23, f7, f31, f32, f33]; refine yB (a ?_); clear a A) | (refine yD ?_; simp only [gresults, ↓yG, Nat.reduceEqDiff, ↓reduceIte, Option.bind_some, gld_1, gld_n, g23, f7, f31, f32, f33]; refine ⟨_, rfl, ?_⟩; simp only [gone]))
    exact hPost _ _ ⟨by rw [hlr], hS⟩
/-! ### token.Join -/
def strs (l : List (List UInt8)) : List Value := l.map fun b => .string (strB b)
def mkS (l : List Tk) (j : Nat) : List Value := (List.range l.length).map fun k => if k < j then .string (strB l[k]!.t) else .string ⟨#[]⟩
theorem mkS_len (l : List Tk) (j : Nat) : (mkS l j).length = l.length := by simp [mkS]
theorem zeros_str : ∀ n : Nat, zeros [.string ⟨#[]⟩] n = List.replicate n (.string ⟨#[]⟩)
  | 0 => rfl
  | n + 1 => by rw [zeros, zeros_str n, List.replicate_succ]; rfl
theorem mkS_zero (l : List Tk) : zeros [.string ⟨#[]⟩] l.length = mkS l 0 := by
  rw [zeros_str]
  refine List.ext_getElem? fun k => ?_
  by_cases h : k < l.length
  · simp [mkS, h, List.getElem?_replicate]
  · simp [mkS, h, List.getElem?_replicate]
theorem mkS_set {l : List Tk} {j : Nat} (h : j < l.length) : (mkS l j).set j (.string (strB l[j]!.t)) = mkS l (j + 1) := by
  refine List.ext_getElem? fun k => ?_
  rw [List.getElem?_set]
  by_cases e : j = k
  · subst e
    rw [if_pos rfl, if_pos (by rw [mkS_len]; exact h)]
    simp [mkS, h]
  · rw [if_neg e]
    by_cases hk : k < l.length
    · simp only [mkS, List.getElem?_map, List.getElem?_range hk, Option.map_some]
      by_cases h2 : k < j
      · rw [if_pos h2, if_pos (by omega)]
      · rw [if_neg h2, if_neg (by omega)]
    · rw [List.getElem?_eq_none (by rw [mkS_len]; omega), List.getElem?_eq_none (by rw [mkS_len]; omega)]
theorem mkS_all (l : List Tk) : mkS l l.length = (l.map fun x => strB x.t).map .string := by
  refine List.ext_getElem? fun k => ?_
  by_cases hk : k < l.length
  · simp [mkS, hk]
  · simp [mkS, hk]
theorem joinB_jn (l : List Tk) : joinB (l.map fun x => strB x.t) (strB [32]) = jn l := by
  unfold joinB jn
  rw [List.map_map]
  rfl
theorem sjoin_ok {H : GHeap} {i gc : Nat} {l : List Tk} {B : ByteArray} (hB : B = strB [32]) (hl : l ≠ []) (hc : H.cs i = some (mkS l l.length)) (h1 : l.length ≤ 140737488355328) (h2 : (jn l).length ≤ 140737488355328) :
    gev G 41 [.slice (some ⟨i, 0, none⟩) l.length gc, .string B] H = some (.string (strB (jn l)), H) := by
  subst hB
  obtain ⟨m, hm⟩ : ∃ m, l.length = m + 1 := ⟨l.length - 1, by have := List.length_pos_iff.2 hl; omega⟩
  refine gev_ext (f := 41) rfl ?_
  rw [hm] at hc ⊢
  simp only [runJoin, hc]
  rw [← hm, mkS_all]
  have e : (((l.map fun x => strB x.t).map Value.string).drop 0).take l.length = (l.map fun x => strB x.t).map Value.string := by
    rw [List.drop_zero, List.take_of_length_le (by simp)]
  rw [e, rdS_map]
  simp only
  rw [joinB_jn, if_pos ⟨by simp, h1, h2⟩]
  rfl
theorem tjoin_ok {H : GHeap} (hw : H.wf) {v : Value} {l : List Tk} (hv : KR H v l) (hl : l ≠ []) (hll : l.length ≤ 200) (hj : (jn l).length ≤ 140737488355328) :
    ∃ r H', gev G 24 [v] H = some (r, H') ∧ (r = .string (strB (jn l)) ∧ Same H H') := by
  refine gev_GW (f := 24) rfl fun Post hPost => ?_
  have hlim := hw.1
  have hsl := hv.isSl
  have hz := mkS_zero l
  simp only [frameOf, Nat.reduceAdd]
  repeat' (first | refine zA ?_ | refine zB ?_ | refine zC ?_ | refine zD ?_ | refine zE ?_ | refine zF ?_ | refine zG ?_ | refine zH ?_ | refine zI ?_ | refine zJ ?_ | refine zK rfl ?_ | refine zL ?_ | refine zM ?_ | refine zN ?_ | refine zO ?_ | refine zP rfl ?_ | refine zQ ?_ | ((first | refine zR ?_ | refine zS ?_ | refine zT ?_ | skip); intro K k; simp (disch := (first | (simp only [yD2, beq_self_eq_true, Nat.reduceLT, Nat.reduceAdd]; done) | ((fail_if_success (apply Bool.eq_iff_iff.2)); first | omega | (simp only [yD2, beq_self_eq_true, Nat.reduceLT, Nat.reduceAdd] <;> omega)) | fail)) only [↓yS, yT, ↓reduceIte, Nat.reduceEqDiff, Nat.reduceAdd, Nat.reduceMul, reduceCtorEq, Int.reduceToNat, g24, hsl.len, hz]; refine yC (k _ _ ?_); clear k K) | ((first | refine zU ?_ | refine zV ?_ | refine zW ?_); intro A B C D a b c d; simp only [↓yG, Nat.reduceEqDiff, ↓reduceIte, g24, hsl.len, hz]; (first | refine zX (a ?_) | refine zY (b ?_) | refine zZ (fun hc => c ?_) (fun hc => d ?_)) <;> clear a b c d A B C D <;> try simp only [yL] at hc) | (refine yA ?_; intro A a; simp only [↓yG, Nat.reduceEqDiff, ↓reduceIte, g24, hsl.len, hz]; refine yB (a ?_); clear a A) | (refine yD ?_; simp only [gresults, ↓yG, Nat.reduceEqDiff, ↓reduceIte, Option.bind_some, gld_1, gld_n, g24, hsl.len, hz]; refine ⟨_, rfl, ?_⟩; simp only [gone]))
  refine GW_loop (fun k fr H1 => ∃ (j : Nat), k = l.length - j ∧ j ≤ l.length ∧ fr.get 3 = some (.slice (some ⟨H.len, 0, none⟩) l.length (l.length + 1)) ∧ fr.get 9 = some (v) ∧ fr.get 10 = some (.int .i64 l.length) ∧ fr.get 11 = some (.int .i64 j) ∧ Same H H1 ∧ H1.mine H.len = some (mkS l j, 1)) ?_ l.length ?_
  rotate_left
  · refine ⟨0, by omega, by omega, ?_⟩
    simp only [↓yG, Nat.reduceEqDiff, ↓reduceIte, Int.natCast_add, Int.cast_ofNat_Int, Int.natCast_zero, true_and, and_true, Option.some.injEq, Value.int.injEq]
    exact ⟨(Same.refl hw).add _, mine_add_eq rfl hlim⟩
  rintro k fr H1 ⟨j, rfl, hj1, f3, f9, f10, f11, hS, hm⟩ J hJ
  have hw1 := hS.wf
  have hlim1 := hw1.1
  have hio := mine_lt hw1 hm
  by_cases hj2 : j < l.length
  · have et := (hv.later hw hS).rowN hj2
    have hset : gset (mkS l j) j (.string (strB l[j]!.t)) = some (mkS l (j + 1)) := by
      rw [gset_ok (by rw [mkS_len]; exact hj2) rfl, mkS_set hj2]
    generalize l[j]! = x at *
    have x0 : ((H1.add (some (.cells [.string ⟨#[]⟩, .int .i64 0] 0 true))).put H1.len (.cells (tkC x) 0 true)).rd H1.len 0 = some (.string (strB x.t)) := by rw [rd_put_same]; rfl
    have hS2 : Same H1 ((H1.add (some (.cells [.string ⟨#[]⟩, .int .i64 0] 0 true))).put H1.len (.cells (tkC x) 0 true)) := (Same.refl hw1).new _ _
    have hm2 : ((H1.add (some (.cells [.string ⟨#[]⟩, .int .i64 0] 0 true))).put H1.len (.cells (tkC x) 0 true)).mine H.len = some (mkS l j, 1) := by rw [hS2.mine hio]; exact hm
    repeat' (first | (exfalso; omega) | refine zA ?_ | refine zB ?_ | refine zC ?_ | refine zD ?_ | refine zE ?_ | refine zF ?_ | refine zG ?_ | refine zH ?_ | refine zI ?_ | refine zJ ?_ | refine zK rfl ?_ | refine zL ?_ | refine zM ?_ | refine zN ?_ | refine zO ?_ | refine zP rfl ?_ | refine zQ ?_ | ((first | refine zR ?_ | refine zS ?_ | refine zT ?_ | skip); intro K k; simp (disch := (first | (simp only [yD2, beq_self_eq_true, Nat.reduceLT, Nat.reduceAdd]; done) | ((fail_if_success (apply Bool.eq_iff_iff.2)); first | omega | (simp only [yD2, beq_self_eq_true, Nat.reduceLT, Nat.reduceAdd] <;> omega)) | fail)) only [↓yS, yT, ↓reduceIte, Nat.reduceEqDiff, Nat.reduceAdd, Nat.reduceMul, reduceCtorEq, Int.reduceToNat, g24, f3, f9, f10, f11, KN, hsl.ia, et, x0, hm2, hset]; refine yC (k _ _ ?_); clear k K) | ((first | refine zU ?_ | refine zV ?_ | refine zW ?_); intro A B C D a b c d; simp only [↓yG, Nat.reduceEqDiff, ↓reduceIte, g24, f3, f9, f10, f11, KN, hsl.ia, et, x0, hm2, hset]; (first | refine zX (a ?_) | refine zY (b ?_) | refine zZ (fun hc => c ?_) (fun hc => d ?_)) <;> clear a b c d A B C D <;> try simp only [yL] at hc) | (refine yA ?_; intro A a; simp only [↓yG, Nat.reduceEqDiff, ↓reduceIte, g24, f3, f9, f10, f11, KN, hsl.ia, et, x0, hm2, hset]; refine yB (a ?_); clear a A) | (refine yD ?_; simp only [gresults, ↓yG, Nat.reduceEqDiff, ↓reduceIte, Option.bind_some, gld_1, gld_n, g24, f3, f9, f10, f11, KN, hsl.ia, et, x0, hm2, hset]; refine ⟨_, rfl, ?_⟩; simp only [gone]))
    refine hJ _ _ ⟨l.length - (j + 1), by omega, j + 1, rfl, by omega, ?_⟩
    simp only [↓yG, Nat.reduceEqDiff, ↓reduceIte, Int.natCast_add, Int.cast_ofNat_Int, Int.natCast_zero, true_and, and_true, Option.some.injEq, Value.int.injEq, f3, f9, f10]
    exact ⟨(hS.trans hS2).put (Nat.le_refl _) (mine_lt hS2.wf hm2) _, mine_put_same (mine_obj hm2).1⟩
  · obtain rfl : j = l.length := by omega
    repeat' (first | (exfalso; omega) | refine zA ?_ | refine zB ?_ | refine zC ?_ | refine zD ?_ | refine zE ?_ | refine zF ?_ | refine zG ?_ | refine zH ?_ | refine zI ?_ | refine zJ ?_ | refine zK rfl ?_ | refine zL ?_ | refine zM ?_ | refine zN ?_ | refine zO ?_ | refine zP rfl ?_ | refine zQ ?_ | ((first | refine zR ?_ | refine zS ?_ | refine zT ?_ | skip); intro K k; simp (disch := (first | (simp only [yD2, beq_self_eq_true, Nat.reduceLT, Nat.reduceAdd]; done) | ((fail_if_success (apply Bool.eq_iff_iff.2)); first | omega | (simp only [yD2, beq_self_eq_true, Nat.reduceLT, Nat.reduceAdd] <;> omega)) | fail)) only [↓yS, yT, ↓reduceIte, Nat.reduceEqDiff, Nat.reduceAdd, Nat.reduceMul, reduceCtorEq, Int.reduceToNat, g24, f3, f9, f10, f11]; refine yC (k _ _ ?_); clear k K) | ((first | refine zU ?_ | refine zV ?_ | refine zW ?_); intro A B C D a b c d; simp only [↓yG, Nat.reduceEqDiff, ↓reduceIte, g24, f3, f9, f10, f11]; (first | refine zX (a ?_) | refine zY (b ?_) | refine zZ (fun hc => c ?_) (fun hc => d ?_)) <;> clear a b c d A B C D <;> try simp only [yL] at hc) | (refine yA ?_; intro A a; simp only [↓yG, Nat.reduceEqDiff, ↓reduceIte, g24, f3, f9, f10, f11]; refine yB (a ?_); clear a A) | (refine yD ?_; simp only [gresults, ↓yG, Nat.reduceEqDiff, ↓reduceIte, Option.bind_some, gld_1, gld_n, g24, f3, f9, f10, f11]; refine ⟨_, rfl, ?_⟩; simp only [gone]))
    refine Gw_s fun K' hK' => G1_call (by simp only [gtarget, ↓GArg.ev, ↓evs, ↓Tr.get_set, Nat.reduceEqDiff, if_true, if_false, ↓reduceIte, Option.map_some, f3, f9, f10, f11]; rfl) (one_of (sjoin_ok (gc := l.length + 1) (by rfl) hl (mine_cs hm) (by omega) hj)) fun r4 H4 hq => hK' _ _ ?_
    obtain ⟨rfl, rfl⟩ := hq
    repeat' (first | (exfalso; omega) | refine zA ?_ | refine zB ?_ | refine zC ?_ | refine zD ?_ | refine zE ?_ | refine zF ?_ | refine zG ?_ | refine zH ?_ | refine zI ?_ | refine zJ ?_ | refine zK rfl ?_ | refine zL ?_ | refine zM ?_ | refine zN ?_ | refine zO ?_ | refine zP rfl ?_ | refine zQ ?_ | ((first | refine zR ?_ | refine zS ?_ | refine zT ?_ | skip); intro K k; simp (disch := (first | (simp only [yD2, beq_self_eq_true, Nat.reduceLT, Nat.reduceAdd]; done) | ((fail_if_success (apply Bool.eq_iff_iff.2)); first | omega | (simp only [yD2, beq_self_eq_true, Nat.reduceLT, Nat.reduceAdd] <;> omega)) | fail)) only [↓yS, yT, ↓reduceIte, Nat.reduceEqDiff, Nat.reduceAdd, Nat.reduceMul, reduceCtorEq, Int.reduceToNat, g24]; refine yC (k _ _ ?_); clear k K) | ((first | refine zU ?_ | refine zV ?_ | refine zW ?_); intro A B C D a b c d; simp only [↓yG, Nat.reduceEqDiff, ↓reduceIte, g24]; (first | refine zX (a ?_) | refine zY (b ?_) | refine zZ (fun hc => c ?_) (fun hc => d ?_)) <;> clear a b c d A B C D <;> try simp only [yL] at hc) | (refine yA ?_; intro A a; simp only [↓yG, Nat.reduceEqDiff, ↓reduceIte, g24]; refine yB (a ?_); clear a A) | (refine yD ?_; simp only [gresults, ↓yG, Nat.reduceEqDiff, ↓reduceIte, Option.bind_some, gld_1, gld_n, g24]; refine ⟨_, rfl, ?_⟩; simp only [gone]))
    exact hPost _ _ ⟨rfl, hS⟩
/-! ### Rows -/
def rowsF (l : List Tk) : Nat → List Nat → List (List UInt8)
  | _, [] => []
  | f, j :: r => jn (seg l f j) :: rowsF l j r
theorem rowsF_len (l : List Tk) : ∀ (f : Nat) (k : List Nat), (rowsF l f k).length = k.length
  | _, [] => rfl
  | f, j :: r => by simp [rowsF, rowsF_len l j r]
/-- texts that can be read -/
abbrev SRd (H : GHeap) (v : Value) (l : List (List UInt8)) : Prop := GArg1 H 1 v l.length (strs l)
theorem seg_jn {p : Par} {a b : Nat} (hok : p.D.ok a b) (h0 : parF p = 0) : (jn (seg p.l a b)).length ≤ 1000 := by
  have h1 := jn_len (seg p.l a b)
  have h2 := seg_sum (l := p.l) (a := a) (b := b) (by have := hok.1; omega)
  have h3 : lenR p.l a b ≤ p.w := of_decide_eq_true hok.2.2
  have h4 := (parF_ok h0).2.2.2.1
  have h5 := (tkF_go (parF_ok h0).1).2
  have h6 := seg_len (l := p.l) (a := a) (b := b) hok.2.1
  have h7 := smN_le' (l := p.l) (k := a) (j := b) (by have := hok.1; omega)
  have h8 : b ≤ p.l.length := hok.2.1
  unfold lenR at h3
  rw [h2, h6] at h1
  have := hok.1
  omega
theorem Rows_ok {H : GHeap} (hw : H.wf) {ev : Value} {p : Par} {E : List Int} (hp : PR H p) (hE : IR H ev E) (hEl : E.length ≤ 4611686018427387904) :
    ∃ r H', gev G 14 [parV p, ev] H = some (r, H') ∧ (∃ lv, r = .tuple #[lv, .int .i64 (costF p E).2] ∧ Same H H' ∧ ((costF p E).2 ≠ 0 → lv = .slice none 0 0) ∧
      ∀ c, costF p E = (c, 0) → ∃ k, E = natsI k ∧ Pth p.D 0 k c ∧ k.length ≤ p.r.toNat ∧ SRd H' lv (rowsF p.l 0 k)) := by
  refine gev_GW (f := 14) rfl fun Post hPost => ?_
  have hf := hp.kr.flat
  have hlim := hw.1
  have hb := par_cflat hf
  have hl := par_cells p
  have hS1 := (Same.refl hw).add (.cells (parC p) 0 true)
  have e0 := rdn_par (p := p) (Same.refl hS1.wf)
  simp only [frameOf, Nat.reduceAdd]
  repeat' (first | refine zA ?_ | refine zB ?_ | refine zC ?_ | refine zD ?_ | refine zE ?_ | refine zF ?_ | refine zG ?_ | refine zH ?_ | refine zI ?_ | refine zJ ?_ | refine zK rfl ?_ | refine zL ?_ | refine zM ?_ | refine zN ?_ | refine zO ?_ | refine zP rfl ?_ | refine zQ ?_ | ((first | refine zR ?_ | refine zS ?_ | refine zT ?_ | skip); intro K k; simp (disch := (first | (simp only [yD2, beq_self_eq_true, Nat.reduceLT, Nat.reduceAdd]; done) | ((fail_if_success (apply Bool.eq_iff_iff.2)); first | omega | (simp only [yD2, beq_self_eq_true, Nat.reduceLT, Nat.reduceAdd] <;> omega)) | fail)) only [↓yS, yT, ↓reduceIte, Nat.reduceEqDiff, Nat.reduceAdd, Nat.reduceMul, reduceCtorEq, Int.reduceToNat, g14, hb, hl, e0]; refine yC (k _ _ ?_); clear k K) | ((first | refine zU ?_ | refine zV ?_ | refine zW ?_); intro A B C D a b c d; simp only [↓yG, Nat.reduceEqDiff, ↓reduceIte, g14, hb, hl, e0]; (first | refine zX (a ?_) | refine zY (b ?_) | refine zZ (fun hc => c ?_) (fun hc => d ?_)) <;> clear a b c d A B C D <;> try simp only [yL] at hc) | (refine yA ?_; intro A a; simp only [↓yG, Nat.reduceEqDiff, ↓reduceIte, g14, hb, hl, e0]; refine yB (a ?_); clear a A) | (refine yD ?_; simp only [gresults, ↓yG, Nat.reduceEqDiff, ↓reduceIte, Option.bind_some, gld_1, gld_n, g14, hb, hl, e0]; refine ⟨_, rfl, ?_⟩; simp only [gone]))
  refine Gw_s fun K' hK' => G1_call (by simp only [gtarget, ↓GArg.ev, ↓evs, ↓Tr.get_set, Nat.reduceEqDiff, if_true, if_false, ↓reduceIte, Option.map_some]; rfl) (Cost_ok hS1.wf (hp.later hw hS1) (GArg1.same hE hw hS1) hEl) fun r1 H1 hq => hK' _ _ ?_
  obtain ⟨rfl, hS2⟩ := hq
  have htt : tv2 (costF p E) = .tuple #[.int .i64 (costF p E).1, .int .i64 (costF p E).2] := rfl
  have hcst : costF p E = ((costF p E).1, (costF p E).2) := rfl
  generalize hc1 : (costF p E).1 = c at *
  generalize hc2 : (costF p E).2 = e at *
  have hS := hS1.trans hS2
  have ep := fun {H'} (h : Same H1 H') => rd_par (p := p) (hS2.trans h)
  by_cases he : e = 0
  case neg =>
    have he' := eq_false he
    repeat' (first | (exfalso; omega) | refine zA ?_ | refine zB ?_ | refine zC ?_ | refine zD ?_ | refine zE ?_ | refine zF ?_ | refine zG ?_ | refine zH ?_ | refine zI ?_ | refine zJ ?_ | refine zK rfl ?_ | refine zL ?_ | refine zM ?_ | refine zN ?_ | refine zO ?_ | refine zP rfl ?_ | refine zQ ?_ | ((first | refine zR ?_ | refine zS ?_ | refine zT ?_ | skip); intro K k; simp (disch := (first | (simp only [yD2, beq_self_eq_true, Nat.reduceLT, Nat.reduceAdd]; done) | ((fail_if_success (apply Bool.eq_iff_iff.2)); first | omega | (simp only [yD2, beq_self_eq_true, Nat.reduceLT, Nat.reduceAdd] <;> omega)) | fail)) only [↓yS, yT, ↓reduceIte, Nat.reduceEqDiff, Nat.reduceAdd, Nat.reduceMul, reduceCtorEq, Int.reduceToNat, g14, htt, he']; refine yC (k _ _ ?_); clear k K) | ((first | refine zU ?_ | refine zV ?_ | refine zW ?_); intro A B C D a b c d; simp only [↓yG, Nat.reduceEqDiff, ↓reduceIte, g14, htt, he']; (first | refine zX (a ?_) | refine zY (b ?_) | refine zZ (fun hc => c ?_) (fun hc => d ?_)) <;> clear a b c d A B C D <;> try simp only [yL] at hc) | (refine yA ?_; intro A a; simp only [↓yG, Nat.reduceEqDiff, ↓reduceIte, g14, htt, he']; refine yB (a ?_); clear a A) | (refine yD ?_; simp only [gresults, ↓yG, Nat.reduceEqDiff, ↓reduceIte, Option.bind_some, gld_1, gld_n, g14, htt, he']; refine ⟨_, rfl, ?_⟩; simp only [gone]))
    refine hPost _ _ ⟨_, rfl, hS, fun _ => rfl, fun c' h => ?_⟩
    rw [hcst] at h
    exact absurd (Prod.mk.inj h).2 he
  subst he
  obtain ⟨h0, ks, rfl, hpth, hkl⟩ := costF_pth hcst
  have hk : PK H p := ⟨hp, h0⟩
  have hn := hk.n
  have hsl := hE.isSl
  have hln : (natsI ks).length = ks.length := by simp [natsI]
  rw [hln] at hsl
  have hr4 := (parF_ok h0).2.2.2.2.2.1
  have hgo := (tkF_go (parF_ok h0).1)
  repeat' (first | (exfalso; omega) | refine zA ?_ | refine zB ?_ | refine zC ?_ | refine zD ?_ | refine zE ?_ | refine zF ?_ | refine zG ?_ | refine zH ?_ | refine zI ?_ | refine zJ ?_ | refine zK rfl ?_ | refine zL ?_ | refine zM ?_ | refine zN ?_ | refine zO ?_ | refine zP rfl ?_ | refine zQ ?_ | ((first | refine zR ?_ | refine zS ?_ | refine zT ?_ | skip); intro K k; simp (disch := (first | (simp only [yD2, beq_self_eq_true, Nat.reduceLT, Nat.reduceAdd]; done) | ((fail_if_success (apply Bool.eq_iff_iff.2)); first | omega | (simp only [yD2, beq_self_eq_true, Nat.reduceLT, Nat.reduceAdd] <;> omega)) | fail)) only [↓yS, yT, ↓reduceIte, Nat.reduceEqDiff, Nat.reduceAdd, Nat.reduceMul, reduceCtorEq, Int.reduceToNat, g14, htt, hsl.len]; refine yC (k _ _ ?_); clear k K) | ((first | refine zU ?_ | refine zV ?_ | refine zW ?_); intro A B C D a b c d; simp only [↓yG, Nat.reduceEqDiff, ↓reduceIte, g14, htt, hsl.len]; (first | refine zX (a ?_) | refine zY (b ?_) | refine zZ (fun hc => c ?_) (fun hc => d ?_)) <;> clear a b c d A B C D <;> try simp only [yL] at hc) | (refine yA ?_; intro A a; simp only [↓yG, Nat.reduceEqDiff, ↓reduceIte, g14, htt, hsl.len]; refine yB (a ?_); clear a A) | (refine yD ?_; simp only [gresults, ↓yG, Nat.reduceEqDiff, ↓reduceIte, Option.bind_some, gld_1, gld_n, g14, htt, hsl.len]; refine ⟨_, rfl, ?_⟩; simp only [gone]))
  refine GW_loop (fun q fr H2 => ∃ (j f : Nat) (c' : Int) (A : List (List UInt8)) (lv : Value), q = ks.length - j ∧ j ≤ ks.length ∧ fr.get 2 = some (.pointer (some ⟨H.len, 0, none⟩)) ∧ fr.get 8 = some (lv) ∧ fr.get 9 = some (.int .i64 f) ∧ fr.get 21 = some (ev) ∧ fr.get 22 = some (.int .i64 ks.length) ∧ fr.get 23 = some (.int .i64 j) ∧ OS 1 1 H1 H2 lv A.length (strs A) ∧ Pth p.D f (ks.drop j) c' ∧ A ++ rowsF p.l f (ks.drop j) = rowsF p.l 0 ks) ?_ ks.length ?_
  rotate_left
  · refine ⟨0, 0, c, [], .slice none 0 0, by omega, by omega, ?_⟩
    simp only [↓yG, Nat.reduceEqDiff, ↓reduceIte, Int.natCast_add, Int.cast_ofNat_Int, Int.natCast_zero, true_and, and_true, Option.some.injEq, Value.int.injEq]
    exact ⟨OS.nil (Same.refl hS2.wf), hpth, rfl⟩
  rintro q fr H2 ⟨j, f, c', A, lv, rfl, hj, f2, f8, f9, f21, f22, f23, hO, hpj, hA⟩ J hJ
  have hS12 := hO.same
  have hSH := hS.trans hS12
  by_cases hj1 : j < ks.length
  case neg =>
    obtain rfl : j = ks.length := by omega
    rw [List.drop_length, rowsF, List.append_nil] at hA
    repeat' (first | (exfalso; omega) | refine zA ?_ | refine zB ?_ | refine zC ?_ | refine zD ?_ | refine zE ?_ | refine zF ?_ | refine zG ?_ | refine zH ?_ | refine zI ?_ | refine zJ ?_ | refine zK rfl ?_ | refine zL ?_ | refine zM ?_ | refine zN ?_ | refine zO ?_ | refine zP rfl ?_ | refine zQ ?_ | ((first | refine zR ?_ | refine zS ?_ | refine zT ?_ | skip); intro K k; simp (disch := (first | (simp only [yD2, beq_self_eq_true, Nat.reduceLT, Nat.reduceAdd]; done) | ((fail_if_success (apply Bool.eq_iff_iff.2)); first | omega | (simp only [yD2, beq_self_eq_true, Nat.reduceLT, Nat.reduceAdd] <;> omega)) | fail)) only [↓yS, yT, ↓reduceIte, Nat.reduceEqDiff, Nat.reduceAdd, Nat.reduceMul, reduceCtorEq, Int.reduceToNat, g14, f2, f8, f9, f21, f22, f23]; refine yC (k _ _ ?_); clear k K) | ((first | refine zU ?_ | refine zV ?_ | refine zW ?_); intro A B C D a b c d; simp only [↓yG, Nat.reduceEqDiff, ↓reduceIte, g14, f2, f8, f9, f21, f22, f23]; (first | refine zX (a ?_) | refine zY (b ?_) | refine zZ (fun hc => c ?_) (fun hc => d ?_)) <;> clear a b c d A B C D <;> try simp only [yL] at hc) | (refine yA ?_; intro A a; simp only [↓yG, Nat.reduceEqDiff, ↓reduceIte, g14, f2, f8, f9, f21, f22, f23]; refine yB (a ?_); clear a A) | (refine yD ?_; simp only [gresults, ↓yG, Nat.reduceEqDiff, ↓reduceIte, Option.bind_some, gld_1, gld_n, g14, f2, f8, f9, f21, f22, f23]; refine ⟨_, rfl, ?_⟩; simp only [gone]))
    refine hPost _ _ ⟨_, rfl, hSH, fun h => absurd rfl h, fun c2 h => ⟨ks, rfl, ?_, hkl, ?_⟩⟩
    · rw [hcst] at h
      obtain ⟨rfl, _⟩ := Prod.mk.inj h
      exact hpth
    · rw [← hA]
      exact OwnG.arg hO.same.wf hO.own (.inr rfl)
  have ee : H2.rd (blk ev) (ofs ev + j) = some (.int .i64 (ks[j]! : Nat)) := by
    have h1 := (GArg1.same hE hw hSH)
    have h2 := IR.at_ h1 (j := j) (by omega)
    rw [h2, getElem!_pos (natsI ks) j (by omega), getElem!_pos ks j hj1]
    simp [natsI]
  have hdr : ks.drop j = ks[j]! :: ks.drop (j + 1) := by rw [List.drop_eq_getElem_cons hj1, getElem!_pos ks j hj1]
  rw [hdr] at hpj hA
  generalize ks[j]! = y at *
  rw [rowsF] at hA
  generalize hcd : c' = c'' at hpj
  cases hpj with
  | cons hok hpj2 =>
    rename_i c3
    have hD : p.D.n = p.l.length := rfl
    have hyn : y ≤ p.l.length := hok.2.1
    have hfy := hok.1
    obtain ⟨v', hcut, hkv⟩ := hp.kr.seg hw (a := f) (b := y) (by omega) hyn
    have hjn := seg_jn hok h0
    have hsgl := seg_len (l := p.l) (a := f) hyn
    have hne : seg p.l f y ≠ [] := fun e => by rw [e] at hsgl; simp at hsgl; omega
    have hcut2 := hcut _ hSH
    have ep2 := fun o => ep hS12 o
    have hw2 := hSH.wf
    repeat' (first | (exfalso; omega) | refine zA ?_ | refine zB ?_ | refine zC ?_ | refine zD ?_ | refine zE ?_ | refine zF ?_ | refine zG ?_ | refine zH ?_ | refine zI ?_ | refine zJ ?_ | refine zK rfl ?_ | refine zL ?_ | refine zM ?_ | refine zN ?_ | refine zO ?_ | refine zP rfl ?_ | refine zQ ?_ | ((first | refine zR ?_ | refine zS ?_ | refine zT ?_ | skip); intro K k; simp (disch := (first | (simp only [yD2, beq_self_eq_true, Nat.reduceLT, Nat.reduceAdd]; done) | ((fail_if_success (apply Bool.eq_iff_iff.2)); first | omega | (simp only [yD2, beq_self_eq_true, Nat.reduceLT, Nat.reduceAdd] <;> omega)) | fail)) only [↓yS, yT, ↓reduceIte, Nat.reduceEqDiff, Nat.reduceAdd, Nat.reduceMul, reduceCtorEq, Int.reduceToNat, g14, f2, f8, f9, f21, f22, f23, hsl.ia, ee, ep2, parC_0, hcut2]; refine yC (k _ _ ?_); clear k K) | ((first | refine zU ?_ | refine zV ?_ | refine zW ?_); intro A B C D a b c d; simp only [↓yG, Nat.reduceEqDiff, ↓reduceIte, g14, f2, f8, f9, f21, f22, f23, hsl.ia, ee, ep2, parC_0, hcut2]; (first | refine zX (a ?_) | refine zY (b ?_) | refine zZ (fun hc => c ?_) (fun hc => d ?_)) <;> clear a b c d A B C D <;> try simp only [yL] at hc) | (refine yA ?_; intro A a; simp only [↓yG, Nat.reduceEqDiff, ↓reduceIte, g14, f2, f8, f9, f21, f22, f23, hsl.ia, ee, ep2, parC_0, hcut2]; refine yB (a ?_); clear a A) | (refine yD ?_; simp only [gresults, ↓yG, Nat.reduceEqDiff, ↓reduceIte, Option.bind_some, gld_1, gld_n, g14, f2, f8, f9, f21, f22, f23, hsl.ia, ee, ep2, parC_0, hcut2]; refine ⟨_, rfl, ?_⟩; simp only [gone]))
    refine Gw_s fun K' hK' => G1_call (by simp only [gtarget, ↓GArg.ev, ↓evs, ↓Tr.get_set, Nat.reduceEqDiff, if_true, if_false, ↓reduceIte, Option.map_some, f2, f8, f9, f21, f22, f23]; rfl) (tjoin_ok hw2 (hkv.later hw hSH) hne (by omega) (by omega)) fun r4 H4 hq => hK' _ _ ?_
    obtain ⟨rfl, hS4⟩ := hq
    generalize hrow : jn (seg p.l f y) = row at *
    have hz1 : zeros [.string ⟨#[]⟩] 1 = [.string ⟨#[]⟩] := rfl
    have hset1 : ([.string ⟨#[]⟩] : List Value).set 0 (.string (strB row)) = [.string (strB row)] := rfl
    have hAl : A.length ≤ 4 := by
      have := congrArg List.length hA
      simp only [List.length_append, List.length_cons, rowsF_len] at this
      omega
    have hO4 := hO.later hS4
    have hfil : ∀ z : List Value, z.length = 1 → fillL z [(0, 1, .string (strB row))] = some [.string (strB row)] := fun z hz => fillL_1 hz rfl
    have hfil1 := hfil _ (show (zeros [.string ⟨#[]⟩] 1).length = 1 from rfl)
    repeat' (first | (exfalso; omega) | refine zA ?_ | refine zB ?_ | refine zC ?_ | refine zD ?_ | refine zE ?_ | refine zF ?_ | refine zG ?_ | refine zH ?_ | refine zI ?_ | refine zJ ?_ | refine zK rfl ?_ | refine zL ?_ | refine zM ?_ | refine zN ?_ | refine zO ?_ | refine zP rfl ?_ | refine zQ ?_ | ((first | refine zR ?_ | refine zS ?_ | refine zT ?_ | skip); intro K k; simp (disch := (first | (simp only [yD2, beq_self_eq_true, Nat.reduceLT, Nat.reduceAdd]; done) | ((fail_if_success (apply Bool.eq_iff_iff.2)); first | omega | (simp only [yD2, beq_self_eq_true, Nat.reduceLT, Nat.reduceAdd] <;> omega)) | fail)) only [↓yS, yT, ↓reduceIte, Nat.reduceEqDiff, Nat.reduceAdd, Nat.reduceMul, reduceCtorEq, Int.reduceToNat, g14, f2, f8, f9, f21, f22, f23, hfil1]; refine yC (k _ _ ?_); clear k K) | ((first | refine zU ?_ | refine zV ?_ | refine zW ?_); intro A B C D a b c d; simp only [↓yG, Nat.reduceEqDiff, ↓reduceIte, g14, f2, f8, f9, f21, f22, f23, hfil1]; (first | refine zX (a ?_) | refine zY (b ?_) | refine zZ (fun hc => c ?_) (fun hc => d ?_)) <;> clear a b c d A B C D <;> try simp only [yL] at hc) | (refine yA ?_; intro A a; simp only [↓yG, Nat.reduceEqDiff, ↓reduceIte, g14, f2, f8, f9, f21, f22, f23, hfil1]; refine yB (a ?_); clear a A) | (refine yD ?_; simp only [gresults, ↓yG, Nat.reduceEqDiff, ↓reduceIte, Option.bind_some, gld_1, gld_n, g14, f2, f8, f9, f21, f22, f23, hfil1]; refine ⟨_, rfl, ?_⟩; simp only [gone]))
    refine Gw_s fun K' hK' => ?_
    simp (disch := (first | (simp only [yD2, beq_self_eq_true, Nat.reduceLT, Nat.reduceAdd]; done) | ((fail_if_success (apply Bool.eq_iff_iff.2)); first | omega | (simp only [yD2, beq_self_eq_true, Nat.reduceLT, Nat.reduceAdd] <;> omega)) | fail)) only [↓yS, yT, ↓reduceIte, Nat.reduceEqDiff, Nat.reduceAdd, Nat.reduceMul, reduceCtorEq, Int.reduceToNat, f2, f8, f9, f21, f22, f23, hfil1, hset1]
    obtain ⟨lv', H5, e, hO5, hB⟩ := hO4.app1 (b := 16) (by decide) (by decide) (news := [.string (strB row)]) rfl (by omega) (by omega)
    refine G1_eq e (hK' _ _ ?_)
    clear hK' K' e
    repeat' (first | (exfalso; omega) | refine zA ?_ | refine zB ?_ | refine zC ?_ | refine zD ?_ | refine zE ?_ | refine zF ?_ | refine zG ?_ | refine zH ?_ | refine zI ?_ | refine zJ ?_ | refine zK rfl ?_ | refine zL ?_ | refine zM ?_ | refine zN ?_ | refine zO ?_ | refine zP rfl ?_ | refine zQ ?_ | ((first | refine zR ?_ | refine zS ?_ | refine zT ?_ | skip); intro K k; simp (disch := (first | (simp only [yD2, beq_self_eq_true, Nat.reduceLT, Nat.reduceAdd]; done) | ((fail_if_success (apply Bool.eq_iff_iff.2)); first | omega | (simp only [yD2, beq_self_eq_true, Nat.reduceLT, Nat.reduceAdd] <;> omega)) | fail)) only [↓yS, yT, ↓reduceIte, Nat.reduceEqDiff, Nat.reduceAdd, Nat.reduceMul, reduceCtorEq, Int.reduceToNat, g14, f2, f8, f9, f21, f22, f23]; refine yC (k _ _ ?_); clear k K) | ((first | refine zU ?_ | refine zV ?_ | refine zW ?_); intro A B C D a b c d; simp only [↓yG, Nat.reduceEqDiff, ↓reduceIte, g14, f2, f8, f9, f21, f22, f23]; (first | refine zX (a ?_) | refine zY (b ?_) | refine zZ (fun hc => c ?_) (fun hc => d ?_)) <;> clear a b c d A B C D <;> try simp only [yL] at hc) | (refine yA ?_; intro A a; simp only [↓yG, Nat.reduceEqDiff, ↓reduceIte, g14, f2, f8, f9, f21, f22, f23]; refine yB (a ?_); clear a A) | (refine yD ?_; simp only [gresults, ↓yG, Nat.reduceEqDiff, ↓reduceIte, Option.bind_some, gld_1, gld_n, g14, f2, f8, f9, f21, f22, f23]; refine ⟨_, rfl, ?_⟩; simp only [gone]))
    refine hJ _ _ ⟨ks.length - (j + 1), by omega, j + 1, y, c3, A ++ [row], lv', rfl, by omega, ?_⟩
    simp only [↓yG, Nat.reduceEqDiff, ↓reduceIte, Int.natCast_add, Int.cast_ofNat_Int, Int.natCast_zero, true_and, and_true, Option.some.injEq, Value.int.injEq, f2, f21, f22]
    refine ⟨?_, hpj2, by rw [List.append_assoc]; exact hA⟩
    rw [List.length_append]
    have : strs (A ++ [row]) = strs A ++ [.string (strB row)] := by simp [strs]
    rw [this]; exact hO5
/-! ### the law Words -/
theorem gb_addB {e : Option EqK} {a b : List UInt8} (h : a.length + b.length ≤ 9223372036854775807) : gbin .add e (.string (strB a)) (.string (strB b)) = some (.string (strB (a ++ b))) := by
  have := gb_addS (k := e) (a := a) (e := strB b) (by simpa [toL, strB] using h)
  rw [this]; simp [toL, strB]
/-- all words of a paragraph that is broken into rows are short -/
theorem Pth.short {p : Par} (h0 : parF p = 0) {i : Nat} {l : List Nat} {c : Int} (h : Pth p.D i l c) : smN p.l p.l.length ≤ smN p.l i + 33 * l.length := by
  induction h with
  | nil => have hD : p.D.n = p.l.length := rfl
           rw [hD]; omega
  | cons hok _ ih =>
    have h3 : lenR p.l _ _ ≤ p.w := of_decide_eq_true hok.2.2
    have h4 := (parF_ok h0).2.2.2.1
    have h5 := hok.1
    unfold lenR at h3
    simp only [List.length_cons]
    omega
theorem all_jn {p : Par} (h0 : parF p = 0) {l : List Nat} {c : Int} (h : Pth p.D 0 l c) (hl : l.length ≤ 4) (k : Nat) : (jn (p.l.take k)).length ≤ 1000 := by
  have h1 := h.short h0
  rw [smN_zero] at h1
  have h2 := jn_len (p.l.take k)
  have h3 := (tkF_go (parF_ok h0).1).2
  have h4 : ((p.l.take k).map tkN).sum ≤ smN p.l p.l.length := by
    show smN p.l k ≤ _
    rcases Nat.le_total k p.l.length with h | h
    · exact smN_le' h
    · unfold smN
      rw [List.take_of_length_le h, List.take_length]; exact Nat.le_refl _
  rw [List.length_take] at h2
  omega
theorem jn_take {l : List Tk} {a b : Nat} (h : a < b) (hb : b ≤ l.length) : jn (l.take b) = if a = 0 then jn (seg l a b) else jn (l.take a) ++ 32 :: jn (seg l a b) := by
  rw [seg_all (l := l) (a := a) (b := b) (by omega)]
  by_cases h0 : a = 0
  · subst h0
    rw [if_pos rfl, List.take_zero, List.nil_append]
  · rw [if_neg h0, jn_append]
    · intro e
      have := congrArg List.length e
      rw [List.length_take, List.length_nil] at this; omega
    · intro e
      have := seg_len (l := l) (a := a) hb
      rw [e, List.length_nil] at this; omega
theorem words_ok {H : GHeap} (hw : H.wf) {p : Par} (hp : PR H p) {ev : Value} {E : List Int} (hE : IR H ev E) (hEl : E.length ≤ 4611686018427387904) : ∃ r H', gev G 6 [parV p, ev] H = some (r, H') ∧ r = .bool true := by
  refine gev_GW (f := 6) rfl fun Post hPost => ?_
  have hP : ∀ H', Post (.bool true) H' := fun H' => hPost _ _ rfl
  have hf := hp.kr.flat
  have hlim := hw.1
  have hb := par_cflat hf
  have hl := par_cells p
  have hS1 := (Same.refl hw).add (.cells (parC p) 0 true)
  have e0 := rdn_par (p := p) (Same.refl hS1.wf)
  have hm0 : (H.add (some (.cells (parC p) 0 true))).mine H.len = some (parC p, 0) := mine_add_eq rfl hlim
  simp only [frameOf, Nat.reduceAdd]
  repeat' (first | refine zA ?_ | refine zB ?_ | refine zC ?_ | refine zD ?_ | refine zE ?_ | refine zF ?_ | refine zG ?_ | refine zH ?_ | refine zI ?_ | refine zJ ?_ | refine zK rfl ?_ | refine zL ?_ | refine zM ?_ | refine zN ?_ | refine zO ?_ | refine zP rfl ?_ | refine zQ ?_ | ((first | refine zR ?_ | refine zS ?_ | refine zT ?_ | skip); intro K k; simp (disch := (first | (simp only [yD2, beq_self_eq_true, Nat.reduceLT, Nat.reduceAdd]; done) | ((fail_if_success (apply Bool.eq_iff_iff.2)); first | omega | (simp only [yD2, beq_self_eq_true, Nat.reduceLT, Nat.reduceAdd] <;> omega)) | fail)) only [↓yS, yT, ↓reduceIte, Nat.reduceEqDiff, Nat.reduceAdd, Nat.reduceMul, reduceCtorEq, Int.reduceToNat, g6, hb, hl]; refine yC (k _ _ ?_); clear k K) | ((first | refine zU ?_ | refine zV ?_ | refine zW ?_); intro A B C D a b c d; simp only [↓yG, Nat.reduceEqDiff, ↓reduceIte, g6, hb, hl]; (first | refine zX (a ?_) | refine zY (b ?_) | refine zZ (fun hc => c ?_) (fun hc => d ?_)) <;> clear a b c d A B C D <;> try simp only [yL] at hc) | (refine yA ?_; intro A a; simp only [↓yG, Nat.reduceEqDiff, ↓reduceIte, g6, hb, hl]; refine yB (a ?_); clear a A) | (refine yD ?_; simp only [gresults, ↓yG, Nat.reduceEqDiff, ↓reduceIte, Option.bind_some, gld_1, gld_n, g6, hb, hl]; refine ⟨_, rfl, ?_⟩; simp only [gone]))
  refine Gw_s fun K' hK' => G1_call (by simp only [gtarget, ↓GArg.ev, ↓evs, ↓Tr.get_set, Nat.reduceEqDiff, if_true, if_false, ↓reduceIte, Option.map_some]; rfl) (awake_ok _) fun r1 H1 hq => hK' _ _ ?_
  obtain ⟨rfl, rfl⟩ := hq
  repeat' (first | refine zA ?_ | refine zB ?_ | refine zC ?_ | refine zD ?_ | refine zE ?_ | refine zF ?_ | refine zG ?_ | refine zH ?_ | refine zI ?_ | refine zJ ?_ | refine zK rfl ?_ | refine zL ?_ | refine zM ?_ | refine zN ?_ | refine zO ?_ | refine zP rfl ?_ | refine zQ ?_ | ((first | refine zR ?_ | refine zS ?_ | refine zT ?_ | skip); intro K k; simp (disch := (first | (simp only [yD2, beq_self_eq_true, Nat.reduceLT, Nat.reduceAdd]; done) | ((fail_if_success (apply Bool.eq_iff_iff.2)); first | omega | (simp only [yD2, beq_self_eq_true, Nat.reduceLT, Nat.reduceAdd] <;> omega)) | fail)) only [↓yS, yT, ↓reduceIte, Nat.reduceEqDiff, Nat.reduceAdd, Nat.reduceMul, reduceCtorEq, Int.reduceToNat, g6, e0]; refine yC (k _ _ ?_); clear k K) | ((first | refine zU ?_ | refine zV ?_ | refine zW ?_); intro A B C D a b c d; simp only [↓yG, Nat.reduceEqDiff, ↓reduceIte, g6, e0]; (first | refine zX (a ?_) | refine zY (b ?_) | refine zZ (fun hc => c ?_) (fun hc => d ?_)) <;> clear a b c d A B C D <;> try simp only [yL] at hc) | (refine yA ?_; intro A a; simp only [↓yG, Nat.reduceEqDiff, ↓reduceIte, g6, e0]; refine yB (a ?_); clear a A) | (refine yD ?_; simp only [gresults, ↓yG, Nat.reduceEqDiff, ↓reduceIte, Option.bind_some, gld_1, gld_n, g6, e0]; refine ⟨_, rfl, ?_⟩; simp only [gone]))
  refine Gw_s fun K' hK' => G1_call (by simp only [gtarget, ↓GArg.ev, ↓evs, ↓Tr.get_set, Nat.reduceEqDiff, if_true, if_false, ↓reduceIte, Option.map_some]; rfl) (few_ok hw hS1.wf hS1 hp) fun r1 H1 hq => hK' _ _ ?_
  obtain ⟨q, rfl, hq1, hq16, hS2⟩ := hq
  have hin : H.len < (H.add (some (.cells (parC p) 0 true))).len := by rw [len_add]; omega
  have hm1 : H1.mine H.len = some (parC p, 0) := by rw [hS2.mine hin]; exact hm0
  have hst := gsetn_par (p := q) (parC_len p) hq1.kr.flat
  have hlim1 := hS2.wf.1
  have hlt0 : H.len < H1.len := Nat.lt_of_lt_of_le hin hS2.len
  have hS3 : Same H (H1.put H.len (.cells (parC q) 0 true)) := (hS1.trans hS2).put (Nat.le_refl _) hlt0 _
  have hmq : (H1.put H.len (.cells (parC q) 0 true)).mine H.len = some (parC q, 0) := mine_put_same (mine_obj hm1).1
  repeat' (first | refine zA ?_ | refine zB ?_ | refine zC ?_ | refine zD ?_ | refine zE ?_ | refine zF ?_ | refine zG ?_ | refine zH ?_ | refine zI ?_ | refine zJ ?_ | refine zK rfl ?_ | refine zL ?_ | refine zM ?_ | refine zN ?_ | refine zO ?_ | refine zP rfl ?_ | refine zQ ?_ | ((first | refine zR ?_ | refine zS ?_ | refine zT ?_ | skip); intro K k; simp (disch := (first | (simp only [yD2, beq_self_eq_true, Nat.reduceLT, Nat.reduceAdd]; done) | ((fail_if_success (apply Bool.eq_iff_iff.2)); first | omega | (simp only [yD2, beq_self_eq_true, Nat.reduceLT, Nat.reduceAdd] <;> omega)) | fail)) only [↓yS, yT, ↓reduceIte, Nat.reduceEqDiff, Nat.reduceAdd, Nat.reduceMul, reduceCtorEq, Int.reduceToNat, g6, hm1, hst, rdnP]; refine yC (k _ _ ?_); clear k K) | ((first | refine zU ?_ | refine zV ?_ | refine zW ?_); intro A B C D a b c d; simp only [↓yG, Nat.reduceEqDiff, ↓reduceIte, g6, hm1, hst, rdnP]; (first | refine zX (a ?_) | refine zY (b ?_) | refine zZ (fun hc => c ?_) (fun hc => d ?_)) <;> clear a b c d A B C D <;> try simp only [yL] at hc) | (refine yA ?_; intro A a; simp only [↓yG, Nat.reduceEqDiff, ↓reduceIte, g6, hm1, hst, rdnP]; refine yB (a ?_); clear a A) | (refine yD ?_; simp only [gresults, ↓yG, Nat.reduceEqDiff, ↓reduceIte, Option.bind_some, gld_1, gld_n, g6, hm1, hst, rdnP]; refine ⟨_, rfl, ?_⟩; simp only [gone]))
  have hl2 : H.len < (H1.put H.len (.cells (parC q) 0 true)).len := by rw [len_put]; omega
  generalize H1.put H.len (.cells (parC q) 0 true) = H2 at *
  have hEL := hEl
  refine Gw_s fun K' hK' => G1_call (by simp only [gtarget, ↓GArg.ev, ↓evs, ↓Tr.get_set, Nat.reduceEqDiff, if_true, if_false, ↓reduceIte, Option.map_some]; rfl) (Rows_ok hS3.wf (hq1.later hw hS3) (GArg1.same hE hw hS3) hEl) fun r3 H3 hq => hK' _ _ ?_
  obtain ⟨lv, rfl, hS5, hlv, hrows⟩ := hq
  have hcst : costF q E = ((costF q E).1, (costF q E).2) := rfl
  generalize (costF q E).1 = c2 at *
  generalize (costF q E).2 = e2 at *
  by_cases h2 : e2 = 0
  case neg =>
    have h2' := eq_false h2
    have := hlv h2
    subst this
    have z1 : glen false (.slice none 0 0) = some (.int .i64 0) := rfl
    repeat' (first | (exfalso; omega) | refine zA ?_ | refine zB ?_ | refine zC ?_ | refine zD ?_ | refine zE ?_ | refine zF ?_ | refine zG ?_ | refine zH ?_ | refine zI ?_ | refine zJ ?_ | refine zK rfl ?_ | refine zL ?_ | refine zM ?_ | refine zN ?_ | refine zO ?_ | refine zP rfl ?_ | refine zQ ?_ | ((first | refine zR ?_ | refine zS ?_ | refine zT ?_ | skip); intro K k; simp (disch := (first | (simp only [yD2, beq_self_eq_true, Nat.reduceLT, Nat.reduceAdd]; done) | ((fail_if_success (apply Bool.eq_iff_iff.2)); first | omega | (simp only [yD2, beq_self_eq_true, Nat.reduceLT, Nat.reduceAdd] <;> omega)) | fail)) only [↓yS, yT, ↓reduceIte, Nat.reduceEqDiff, Nat.reduceAdd, Nat.reduceMul, reduceCtorEq, Int.reduceToNat, g6, h2', z1]; refine yC (k _ _ ?_); clear k K) | ((first | refine zU ?_ | refine zV ?_ | refine zW ?_); intro A B C D a b c d; simp only [↓yG, Nat.reduceEqDiff, ↓reduceIte, g6, h2', z1]; (first | refine zX (a ?_) | refine zY (b ?_) | refine zZ (fun hc => c ?_) (fun hc => d ?_)) <;> clear a b c d A B C D <;> try simp only [yL] at hc) | (refine yA ?_; intro A a; simp only [↓yG, Nat.reduceEqDiff, ↓reduceIte, g6, h2', z1]; refine yB (a ?_); clear a A) | (refine yD ?_; simp only [gresults, ↓yG, Nat.reduceEqDiff, ↓reduceIte, Option.bind_some, gld_1, gld_n, g6, h2', z1]; refine ⟨_, rfl, ?_⟩; simp only [gone]))
    exact hP _
  subst h2
  obtain ⟨ks, rfl, hpth, hkl, hrd⟩ := hrows _ hcst
  have h0 := (costF_pth hcst).1
  have hS6 := hS3.trans hS5
  have hk : PK H q := ⟨hq1, h0⟩
  have hn := hk.n
  have hr4 := (parF_ok h0).2.2.2.2.2.1
  have hr1 := (parF_ok h0).2.2.2.2.1
  have hgo := (tkF_go (parF_ok h0).1)
  have hsl := hrd.rd.isSl
  rw [rowsF_len] at hsl
  have hslE := hE.isSl
  have hln : (natsI ks).length = ks.length := by simp [natsI]
  rw [hln] at hslE
  have hnil : (⟨#[]⟩ : ByteArray) = strB (jn (q.l.take 0)) := by simp [jn, Go.Lib.join_nil, strB]
  have epq : ∀ H', Same H2 H' → ∀ o, H'.rd H.len o = (parC q)[o]? := fun H' h o => by rw [h.rd hl2]; exact mine_rd hmq
  have ep3 := epq _ hS5
  repeat' (first | (exfalso; omega) | refine zA ?_ | refine zB ?_ | refine zC ?_ | refine zD ?_ | refine zE ?_ | refine zF ?_ | refine zG ?_ | refine zH ?_ | refine zI ?_ | refine zJ ?_ | refine zK rfl ?_ | refine zL ?_ | refine zM ?_ | refine zN ?_ | refine zO ?_ | refine zP rfl ?_ | refine zQ ?_ | ((first | refine zR ?_ | refine zS ?_ | refine zT ?_ | skip); intro K k; simp (disch := (first | (simp only [yD2, beq_self_eq_true, Nat.reduceLT, Nat.reduceAdd]; done) | ((fail_if_success (apply Bool.eq_iff_iff.2)); first | omega | (simp only [yD2, beq_self_eq_true, Nat.reduceLT, Nat.reduceAdd] <;> omega)) | fail)) only [↓yS, yT, ↓reduceIte, Nat.reduceEqDiff, Nat.reduceAdd, Nat.reduceMul, reduceCtorEq, Int.reduceToNat, g6, hsl.len]; refine yC (k _ _ ?_); clear k K) | ((first | refine zU ?_ | refine zV ?_ | refine zW ?_); intro A B C D a b c d; simp only [↓yG, Nat.reduceEqDiff, ↓reduceIte, g6, hsl.len]; (first | refine zX (a ?_) | refine zY (b ?_) | refine zZ (fun hc => c ?_) (fun hc => d ?_)) <;> clear a b c d A B C D <;> try simp only [yL] at hc) | (refine yA ?_; intro A a; simp only [↓yG, Nat.reduceEqDiff, ↓reduceIte, g6, hsl.len]; refine yB (a ?_); clear a A) | (refine yD ?_; simp only [gresults, ↓yG, Nat.reduceEqDiff, ↓reduceIte, Option.bind_some, gld_1, gld_n, g6, hsl.len]; refine ⟨_, rfl, ?_⟩; simp only [gone]))
  refine GW_loop (fun m fr H4 => ∃ (j f : Nat) (c' : Int), m = ks.length - j ∧ j ≤ ks.length ∧ fr.get 1 = some (ev) ∧ fr.get 2 = some (.pointer (some ⟨H.len, 0, none⟩)) ∧ fr.get 5 = some (lv) ∧ fr.get 7 = some (.string (strB (jn (q.l.take f)))) ∧ fr.get 8 = some (.int .i64 f) ∧ fr.get 26 = some (lv) ∧ fr.get 27 = some (.int .i64 ks.length) ∧ fr.get 28 = some (.int .i64 j) ∧ Same H3 H4 ∧ Pth q.D f (ks.drop j) c' ∧ rowsF q.l f (ks.drop j) = (rowsF q.l 0 ks).drop j ∧ (j = 0 → f = 0) ∧ (0 < j → 0 < f)) ?_ ks.length ?_
  rotate_left
  · refine ⟨0, 0, c2, by omega, by omega, ?_⟩
    simp only [↓yG, Nat.reduceEqDiff, ↓reduceIte, Int.natCast_add, Int.cast_ofNat_Int, Int.natCast_zero, true_and, and_true, Option.some.injEq, Value.int.injEq]
    refine ⟨by first | trivial | exact congrArg Value.string hnil, Same.refl hS5.wf, hpth, rfl, by first | trivial | exact fun _ => rfl, fun h => absurd h (Nat.lt_irrefl _)⟩
  rintro m fr H4 ⟨j, f, c', rfl, hj, f1, f2, f5, f7, f8, f26, f27, f28, hS4, hpj, hrw, hj0, hjp⟩ J hJ
  have hSH := hS6.trans hS4
  have ep4 := epq _ (hS5.trans hS4)
  have hw4 := hS4.wf
  by_cases hj1 : j < ks.length
  case neg =>
    obtain rfl : j = ks.length := by omega
    rw [List.drop_length] at hpj
    have hfn : f = q.l.length := by
      generalize hcd : ([] : List Nat) = z at hpj
      cases hpj with
      | nil => rfl
      | cons => cases hcd
    subst hfn
    have hall := all_jn h0 hpth (by omega) q.l.length
    rw [List.take_length] at hall f7
    repeat' (first | (exfalso; omega) | refine zA ?_ | refine zB ?_ | refine zC ?_ | refine zD ?_ | refine zE ?_ | refine zF ?_ | refine zG ?_ | refine zH ?_ | refine zI ?_ | refine zJ ?_ | refine zK rfl ?_ | refine zL ?_ | refine zM ?_ | refine zN ?_ | refine zO ?_ | refine zP rfl ?_ | refine zQ ?_ | ((first | refine zR ?_ | refine zS ?_ | refine zT ?_ | skip); intro K k; simp (disch := (first | (simp only [yD2, beq_self_eq_true, Nat.reduceLT, Nat.reduceAdd]; done) | ((fail_if_success (apply Bool.eq_iff_iff.2)); first | omega | (simp only [yD2, beq_self_eq_true, Nat.reduceLT, Nat.reduceAdd] <;> omega)) | fail)) only [↓yS, yT, ↓reduceIte, Nat.reduceEqDiff, Nat.reduceAdd, Nat.reduceMul, reduceCtorEq, Int.reduceToNat, g6, f1, f2, f5, f7, f8, f26, f27, f28, ep4, parC_0]; refine yC (k _ _ ?_); clear k K) | ((first | refine zU ?_ | refine zV ?_ | refine zW ?_); intro A B C D a b c d; simp only [↓yG, Nat.reduceEqDiff, ↓reduceIte, g6, f1, f2, f5, f7, f8, f26, f27, f28, ep4, parC_0]; (first | refine zX (a ?_) | refine zY (b ?_) | refine zZ (fun hc => c ?_) (fun hc => d ?_)) <;> clear a b c d A B C D <;> try simp only [yL] at hc) | (refine yA ?_; intro A a; simp only [↓yG, Nat.reduceEqDiff, ↓reduceIte, g6, f1, f2, f5, f7, f8, f26, f27, f28, ep4, parC_0]; refine yB (a ?_); clear a A) | (refine yD ?_; simp only [gresults, ↓yG, Nat.reduceEqDiff, ↓reduceIte, Option.bind_some, gld_1, gld_n, g6, f1, f2, f5, f7, f8, f26, f27, f28, ep4, parC_0]; refine ⟨_, rfl, ?_⟩; simp only [gone]))
    refine Gw_s fun K' hK' => G1_call (by simp only [gtarget, ↓GArg.ev, ↓evs, ↓Tr.get_set, Nat.reduceEqDiff, if_true, if_false, ↓reduceIte, Option.map_some, f1, f2, f5, f7, f8, f26, f27, f28]; rfl) (tjoin_ok hw4 (hq1.kr.later hw hSH) (parF_ok h0).2.1 (by omega) (by omega)) fun r9 H9 hq => hK' _ _ ?_
    obtain ⟨rfl, hS9⟩ := hq
    have ep9 := epq _ ((hS5.trans hS4).trans hS9)
    have hd : decide ((ks.length : Int) ≤ q.r) = true := decide_eq_true (by omega)
    repeat' (first | (exfalso; omega) | refine zA ?_ | refine zB ?_ | refine zC ?_ | refine zD ?_ | refine zE ?_ | refine zF ?_ | refine zG ?_ | refine zH ?_ | refine zI ?_ | refine zJ ?_ | refine zK rfl ?_ | refine zL ?_ | refine zM ?_ | refine zN ?_ | refine zO ?_ | refine zP rfl ?_ | refine zQ ?_ | ((first | refine zR ?_ | refine zS ?_ | refine zT ?_ | skip); intro K k; simp (disch := (first | (simp only [yD2, beq_self_eq_true, Nat.reduceLT, Nat.reduceAdd]; done) | ((fail_if_success (apply Bool.eq_iff_iff.2)); first | omega | (simp only [yD2, beq_self_eq_true, Nat.reduceLT, Nat.reduceAdd] <;> omega)) | fail)) only [↓yS, yT, ↓reduceIte, Nat.reduceEqDiff, Nat.reduceAdd, Nat.reduceMul, reduceCtorEq, Int.reduceToNat, g6, f1, f2, f5, f7, f8, f26, f27, f28, ep9, parC_2, hsl.len]; refine yC (k _ _ ?_); clear k K) | ((first | refine zU ?_ | refine zV ?_ | refine zW ?_); intro A B C D a b c d; simp only [↓yG, Nat.reduceEqDiff, ↓reduceIte, g6, f1, f2, f5, f7, f8, f26, f27, f28, ep9, parC_2, hsl.len]; (first | refine zX (a ?_) | refine zY (b ?_) | refine zZ (fun hc => c ?_) (fun hc => d ?_)) <;> clear a b c d A B C D <;> try simp only [yL] at hc) | (refine yA ?_; intro A a; simp only [↓yG, Nat.reduceEqDiff, ↓reduceIte, g6, f1, f2, f5, f7, f8, f26, f27, f28, ep9, parC_2, hsl.len]; refine yB (a ?_); clear a A) | (refine yD ?_; simp only [gresults, ↓yG, Nat.reduceEqDiff, ↓reduceIte, Option.bind_some, gld_1, gld_n, g6, f1, f2, f5, f7, f8, f26, f27, f28, ep9, parC_2, hsl.len]; refine ⟨_, rfl, ?_⟩; simp only [gone]))
    all_goals first | exact hP _ | (rw [hd]; exact hP _)
  have ee : H4.rd (blk ev) (ofs ev + j) = some (.int .i64 (ks[j]! : Nat)) := by
    have h1 := (GArg1.same hE hw hSH)
    have h2 := IR.at_ h1 (j := j) (by omega)
    rw [h2, getElem!_pos (natsI ks) j (by omega), getElem!_pos ks j hj1]
    simp [natsI]
  have hdr : ks.drop j = ks[j]! :: ks.drop (j + 1) := by rw [List.drop_eq_getElem_cons hj1, getElem!_pos ks j hj1]
  have hrl : j < (rowsF q.l 0 ks).length := by rw [rowsF_len]; exact hj1
  have er : H4.rd (blk lv) (ofs lv + j) = some (.string (strB (rowsF q.l 0 ks)[j]!)) := by
    have h1 := (GArg1.same hrd hS5.wf hS4).rd.rd (c := j) (by simp [strs]; exact hrl)
    rw [h1]
    simp only [strs, List.getElem?_map]
    rw [gget hrl]; rfl
  rw [hdr, List.drop_eq_getElem_cons hrl, ← getElem!_pos _ j hrl] at hrw
  rw [hdr] at hpj
  rw [rowsF] at hrw
  obtain ⟨hrow, hrw2⟩ := List.cons.inj hrw
  rw [← hrow] at er
  generalize ks[j]! = y at *
  generalize hcd : c' = c'' at hpj
  cases hpj with
  | cons hok hpj2 =>
    rename_i c3
    have hD : q.D.n = q.l.length := rfl
    have hyn : y ≤ q.l.length := hok.2.1
    have hfy := hok.1
    have hjn := seg_jn hok h0
    have htk := jn_take hfy hyn
    have hfit : lenR q.l f y ≤ q.w := of_decide_eq_true hok.2.2
    have hall := all_jn h0 hpth (by omega) f
    have hsp : ∀ e a, a.length ≤ 1000000 → gbin .add e (.string (strB a)) (.string ⟨#[32]⟩) = some (.string (strB (a ++ [32]))) := fun e a h => gb_addB (e := e) (a := a) (b := [32]) (by simp only [List.length_cons, List.length_nil]; omega)
    have hvk : VK q.l := fun x hx => tkGo_ok hgo.1 x hx
    by_cases hj2 : j = 0
    · have hf0 := hj0 hj2
      subst hf0
      rw [if_pos rfl] at htk
      have hn0 : jn (q.l.take 0) = [] := by simp [jn, Go.Lib.join_nil]
      have hadd : ∀ e, gbin .add e (.string (strB (jn (q.l.take 0)))) (.string (strB (jn (seg q.l 0 y)))) = some (.string (strB (jn (q.l.take y)))) := fun e => by
        rw [gb_addB (by rw [hn0]; simp only [List.length_nil]; omega), hn0, List.nil_append, htk]
      repeat' (first | (exfalso; omega) | refine zA ?_ | refine zB ?_ | refine zC ?_ | refine zD ?_ | refine zE ?_ | refine zF ?_ | refine zG ?_ | refine zH ?_ | refine zI ?_ | refine zJ ?_ | refine zK rfl ?_ | refine zL ?_ | refine zM ?_ | refine zN ?_ | refine zO ?_ | refine zP rfl ?_ | refine zQ ?_ | ((first | refine zR ?_ | refine zS ?_ | refine zT ?_ | skip); intro K k; simp (disch := (first | (simp only [yD2, beq_self_eq_true, Nat.reduceLT, Nat.reduceAdd]; done) | ((fail_if_success (apply Bool.eq_iff_iff.2)); first | omega | (simp only [yD2, beq_self_eq_true, Nat.reduceLT, Nat.reduceAdd] <;> omega)) | fail)) only [↓yS, yT, ↓reduceIte, Nat.reduceEqDiff, Nat.reduceAdd, Nat.reduceMul, reduceCtorEq, Int.reduceToNat, g6, f1, f2, f5, f7, f8, f26, f27, f28, hsl.ia, er, hadd, ep4, parC_0, hslE.ia, ee]; refine yC (k _ _ ?_); clear k K) | ((first | refine zU ?_ | refine zV ?_ | refine zW ?_); intro A B C D a b c d; simp only [↓yG, Nat.reduceEqDiff, ↓reduceIte, g6, f1, f2, f5, f7, f8, f26, f27, f28, hsl.ia, er, hadd, ep4, parC_0, hslE.ia, ee]; (first | refine zX (a ?_) | refine zY (b ?_) | refine zZ (fun hc => c ?_) (fun hc => d ?_)) <;> clear a b c d A B C D <;> try simp only [yL] at hc) | (refine yA ?_; intro A a; simp only [↓yG, Nat.reduceEqDiff, ↓reduceIte, g6, f1, f2, f5, f7, f8, f26, f27, f28, hsl.ia, er, hadd, ep4, parC_0, hslE.ia, ee]; refine yB (a ?_); clear a A) | (refine yD ?_; simp only [gresults, ↓yG, Nat.reduceEqDiff, ↓reduceIte, Option.bind_some, gld_1, gld_n, g6, f1, f2, f5, f7, f8, f26, f27, f28, hsl.ia, er, hadd, ep4, parC_0, hslE.ia, ee]; refine ⟨_, rfl, ?_⟩; simp only [gone]))
      refine Gw_s fun K' hK' => G1_callM (by simp only [gtarget, ↓GArg.ev, ↓evs, ↓Tr.get_set, Nat.reduceEqDiff, if_true, if_false, ↓reduceIte, Option.map_some, f1, f2, f5, f7, f8, f26, f27, f28]; rfl) (tlen_ok (a := 0) (b := y) (H := H4.up) (wf_up hw4) ⟨(hq1.kr.later hw hSH).rd, (hq1.kr.later hw hSH).sl⟩ hq1.sh hvk (by omega) hfy hyn) fun r9 H9 hq => hK' _ _ ?_
      obtain ⟨rfl, hS9'⟩ := hq
      have hS9 := Same.down hw4 hS9'
      generalize H9.down H4.lim = H10 at *
      have ep9 := epq _ ((hS5.trans hS4).trans hS9)
      have ee9 : H10.rd (blk ev) (ofs ev + j) = some (.int .i64 (y : Nat)) := by rw [hS9.rd (Nat.lt_of_lt_of_le (hE.rd.lt (by omega)) hSH.len)]; exact ee
      repeat' (first | (exfalso; omega) | refine zA ?_ | refine zB ?_ | refine zC ?_ | refine zD ?_ | refine zE ?_ | refine zF ?_ | refine zG ?_ | refine zH ?_ | refine zI ?_ | refine zJ ?_ | refine zK rfl ?_ | refine zL ?_ | refine zM ?_ | refine zN ?_ | refine zO ?_ | refine zP rfl ?_ | refine zQ ?_ | ((first | refine zR ?_ | refine zS ?_ | refine zT ?_ | skip); intro K k; simp (disch := (first | (simp only [yD2, beq_self_eq_true, Nat.reduceLT, Nat.reduceAdd]; done) | ((fail_if_success (apply Bool.eq_iff_iff.2)); first | omega | (simp only [yD2, beq_self_eq_true, Nat.reduceLT, Nat.reduceAdd] <;> omega)) | fail)) only [↓yS, yT, ↓reduceIte, Nat.reduceEqDiff, Nat.reduceAdd, Nat.reduceMul, reduceCtorEq, Int.reduceToNat, g6, f1, f2, f5, f7, f8, f26, f27, f28, ep9, parC_1, hslE.ia, ee9]; refine yC (k _ _ ?_); clear k K) | ((first | refine zU ?_ | refine zV ?_ | refine zW ?_); intro A B C D a b c d; simp only [↓yG, Nat.reduceEqDiff, ↓reduceIte, g6, f1, f2, f5, f7, f8, f26, f27, f28, ep9, parC_1, hslE.ia, ee9]; (first | refine zX (a ?_) | refine zY (b ?_) | refine zZ (fun hc => c ?_) (fun hc => d ?_)) <;> clear a b c d A B C D <;> try simp only [yL] at hc) | (refine yA ?_; intro A a; simp only [↓yG, Nat.reduceEqDiff, ↓reduceIte, g6, f1, f2, f5, f7, f8, f26, f27, f28, ep9, parC_1, hslE.ia, ee9]; refine yB (a ?_); clear a A) | (refine yD ?_; simp only [gresults, ↓yG, Nat.reduceEqDiff, ↓reduceIte, Option.bind_some, gld_1, gld_n, g6, f1, f2, f5, f7, f8, f26, f27, f28, ep9, parC_1, hslE.ia, ee9]; refine ⟨_, rfl, ?_⟩; simp only [gone]))
      refine hJ _ _ ⟨ks.length - (j + 1), by omega, j + 1, y, c3, rfl, by omega, ?_⟩
      simp only [↓yG, Nat.reduceEqDiff, ↓reduceIte, Int.natCast_add, Int.cast_ofNat_Int, Int.natCast_zero, true_and, and_true, Option.some.injEq, Value.int.injEq, f1, f2, f5, f26, f27]
      exact ⟨hS4.trans hS9, hpj2, hrw2, fun h => (by first | omega | exact h.elim), fun _ => by omega⟩
    · have hf0 := hjp (by omega)
      rw [if_neg (by omega)] at htk
      have hadd1 := fun e => hsp e (jn (q.l.take f)) (by omega)
      have hadd : ∀ e, gbin .add e (.string (strB (jn (q.l.take f) ++ [32]))) (.string (strB (jn (seg q.l f y)))) = some (.string (strB (jn (q.l.take y)))) := fun e => by
        rw [gb_addB (by simp only [List.length_append, List.length_cons, List.length_nil]; omega), htk]; simp
      repeat' (first | (exfalso; omega) | refine zA ?_ | refine zB ?_ | refine zC ?_ | refine zD ?_ | refine zE ?_ | refine zF ?_ | refine zG ?_ | refine zH ?_ | refine zI ?_ | refine zJ ?_ | refine zK rfl ?_ | refine zL ?_ | refine zM ?_ | refine zN ?_ | refine zO ?_ | refine zP rfl ?_ | refine zQ ?_ | ((first | refine zR ?_ | refine zS ?_ | refine zT ?_ | skip); intro K k; simp (disch := (first | (simp only [yD2, beq_self_eq_true, Nat.reduceLT, Nat.reduceAdd]; done) | ((fail_if_success (apply Bool.eq_iff_iff.2)); first | omega | (simp only [yD2, beq_self_eq_true, Nat.reduceLT, Nat.reduceAdd] <;> omega)) | fail)) only [↓yS, yT, ↓reduceIte, Nat.reduceEqDiff, Nat.reduceAdd, Nat.reduceMul, reduceCtorEq, Int.reduceToNat, g6, f1, f2, f5, f7, f8, f26, f27, f28, hsl.ia, er, hadd1, hadd, ep4, parC_0, hslE.ia, ee]; refine yC (k _ _ ?_); clear k K) | ((first | refine zU ?_ | refine zV ?_ | refine zW ?_); intro A B C D a b c d; simp only [↓yG, Nat.reduceEqDiff, ↓reduceIte, g6, f1, f2, f5, f7, f8, f26, f27, f28, hsl.ia, er, hadd1, hadd, ep4, parC_0, hslE.ia, ee]; (first | refine zX (a ?_) | refine zY (b ?_) | refine zZ (fun hc => c ?_) (fun hc => d ?_)) <;> clear a b c d A B C D <;> try simp only [yL] at hc) | (refine yA ?_; intro A a; simp only [↓yG, Nat.reduceEqDiff, ↓reduceIte, g6, f1, f2, f5, f7, f8, f26, f27, f28, hsl.ia, er, hadd1, hadd, ep4, parC_0, hslE.ia, ee]; refine yB (a ?_); clear a A) | (refine yD ?_; simp only [gresults, ↓yG, Nat.reduceEqDiff, ↓reduceIte, Option.bind_some, gld_1, gld_n, g6, f1, f2, f5, f7, f8, f26, f27, f28, hsl.ia, er, hadd1, hadd, ep4, parC_0, hslE.ia, ee]; refine ⟨_, rfl, ?_⟩; simp only [gone]))
      refine Gw_s fun K' hK' => G1_callM (by simp only [gtarget, ↓GArg.ev, ↓evs, ↓Tr.get_set, Nat.reduceEqDiff, if_true, if_false, ↓reduceIte, Option.map_some, f1, f2, f5, f7, f8, f26, f27, f28]; rfl) (tlen_ok (a := f) (b := y) (H := H4.up) (wf_up hw4) ⟨(hq1.kr.later hw hSH).rd, (hq1.kr.later hw hSH).sl⟩ hq1.sh hvk (by omega) hfy hyn) fun r9 H9 hq => hK' _ _ ?_
      obtain ⟨rfl, hS9'⟩ := hq
      have hS9 := Same.down hw4 hS9'
      generalize H9.down H4.lim = H10 at *
      have ep9 := epq _ ((hS5.trans hS4).trans hS9)
      have ee9 : H10.rd (blk ev) (ofs ev + j) = some (.int .i64 (y : Nat)) := by rw [hS9.rd (Nat.lt_of_lt_of_le (hE.rd.lt (by omega)) hSH.len)]; exact ee
      repeat' (first | (exfalso; omega) | refine zA ?_ | refine zB ?_ | refine zC ?_ | refine zD ?_ | refine zE ?_ | refine zF ?_ | refine zG ?_ | refine zH ?_ | refine zI ?_ | refine zJ ?_ | refine zK rfl ?_ | refine zL ?_ | refine zM ?_ | refine zN ?_ | refine zO ?_ | refine zP rfl ?_ | refine zQ ?_ | ((first | refine zR ?_ | refine zS ?_ | refine zT ?_ | skip); intro K k; simp (disch := (first | (simp only [yD2, beq_self_eq_true, Nat.reduceLT, Nat.reduceAdd]; done) | ((fail_if_success (apply Bool.eq_iff_iff.2)); first | omega | (simp only [yD2, beq_self_eq_true, Nat.reduceLT, Nat.reduceAdd] <;> omega)) | fail)) only [↓yS, yT, ↓reduceIte, Nat.reduceEqDiff, Nat.reduceAdd, Nat.reduceMul, reduceCtorEq, Int.reduceToNat, g6, f1, f2, f5, f7, f8, f26, f27, f28, ep9, parC_1, hslE.ia, ee9]; refine yC (k _ _ ?_); clear k K) | ((first | refine zU ?_ | refine zV ?_ | refine zW ?_); intro A B C D a b c d; simp only [↓yG, Nat.reduceEqDiff, ↓reduceIte, g6, f1, f2, f5, f7, f8, f26, f27, f28, ep9, parC_1, hslE.ia, ee9]; (first | refine zX (a ?_) | refine zY (b ?_) | refine zZ (fun hc => c ?_) (fun hc => d ?_)) <;> clear a b c d A B C D <;> try simp only [yL] at hc) | (refine yA ?_; intro A a; simp only [↓yG, Nat.reduceEqDiff, ↓reduceIte, g6, f1, f2, f5, f7, f8, f26, f27, f28, ep9, parC_1, hslE.ia, ee9]; refine yB (a ?_); clear a A) | (refine yD ?_; simp only [gresults, ↓yG, Nat.reduceEqDiff, ↓reduceIte, Option.bind_some, gld_1, gld_n, g6, f1, f2, f5, f7, f8, f26, f27, f28, ep9, parC_1, hslE.ia, ee9]; refine ⟨_, rfl, ?_⟩; simp only [gone]))
      refine hJ _ _ ⟨ks.length - (j + 1), by omega, j + 1, y, c3, rfl, by omega, ?_⟩
      simp only [↓yG, Nat.reduceEqDiff, ↓reduceIte, Int.natCast_add, Int.cast_ofNat_Int, Int.natCast_zero, true_and, and_true, Option.some.injEq, Value.int.injEq, f1, f2, f5, f26, f27]
      exact ⟨hS4.trans hS9, hpj2, hrw2, fun h => (by first | omega | exact h.elim), fun _ => by omega⟩
theorem words_law {H : GHeap} (hw : H.wf) {gvs : List Value} (h : RdAs H [parShp, .sl (.int .i64)] gvs) : ∃ v H2, gev G 6 gvs H = some (v, H2) ∧ v = .bool true := by
  obtain ⟨gv, _, rfl, h1, gv2, _, rfl, h2, rfl⟩ := h
  obtain ⟨p, rfl, hp, _⟩ := RdA.par h1
  obtain ⟨E, h3, h4⟩ := RdAQ.ints_ h2
  refine words_ok hw hp h3 ?_
  have := h4.1.2
  have hb : IntKind.i64.bits / 8 = 8 := rfl
  rw [hb] at this
  simp only [reachBytes] at this
  omega
end Go.Gh
