/-
  Plain: strings of characters of the repertoire, by their bytes and by their runes.
-/
import Derived.Test.YtjjcgaompnjbdaaDoorSyC2
import Derived.Lib.ValidLaws
import Derived.Lib.TrimUEq
import Derived.Lib.MapLaws
namespace Go.Gh
set_option linter.unusedSimpArgs false
set_option linter.unusedVariables false
set_option maxHeartbeats 4000000
open Go.Lib
set_option maxRecDepth 100000

def charOk (x : Nat) : List UInt8 → Bool
  | [a] => a.toNat == x && decide (x < 128)
  | [a, b] => decide (128 ≤ a.toNat) && a.toNat / 32 == 6 && b.toNat / 64 == 2 && a.toNat % 32 * 64 + b.toNat % 64 == x && decide (128 ≤ x)
  | [a, b, c] => decide (128 ≤ a.toNat) && !(a.toNat / 32 == 6) && a.toNat / 16 == 14 && b.toNat / 64 == 2 && c.toNat / 64 == 2 && a.toNat % 16 * 4096 + b.toNat % 64 * 64 + c.toNat % 64 == x && decide (2048 ≤ x ∧ x < 55296)
  | _ => false
theorem char_table : (REP.all fun x => charOk x (encL x)) = true := by kernel_rfl
theorem enc_table2 : (REP.all fun x => encodeRune (x : Int) == encL x) = true := by kernel_rfl
theorem encR {x : Nat} (hx : x ∈ REP) : encodeRune (x : Int) = encL x := by
  have := List.all_eq_true.1 enc_table2 x hx
  simpa using this
theorem dec_char {x : Nat} (hx : x ∈ REP) (t : List UInt8) : decodeL (encL x ++ t) = (x, (encL x).length) := by
  have h := List.all_eq_true.1 char_table x hx
  generalize encL x = e at h
  rw [decodeL_N]
  match e, h with
  | [a], h =>
    simp only [charOk, Bool.and_eq_true, beq_iff_eq, decide_eq_true_eq] at h
    simp only [List.cons_append, List.nil_append, List.getD_cons_zero, List.length_cons, List.length_nil, decodeN]
    rw [if_pos (by omega), h.1]
  | [a, b], h =>
    simp only [charOk, Bool.and_eq_true, beq_iff_eq, decide_eq_true_eq] at h
    obtain ⟨⟨⟨⟨h1, h2⟩, h3⟩, h4⟩, h5⟩ := h
    simp only [List.cons_append, List.nil_append, List.getD_cons_zero, List.getD_cons_succ, List.length_cons, List.length_nil, decodeN]
    rw [if_neg (by omega), if_pos ⟨h2, by omega, h3⟩, if_pos (by omega), h4]
  | [a, b, c], h =>
    simp only [charOk, Bool.and_eq_true, beq_iff_eq, decide_eq_true_eq, Bool.not_eq_true', beq_eq_false_iff_ne] at h
    obtain ⟨⟨⟨⟨⟨⟨h1, h2⟩, h3⟩, h4⟩, h5⟩, h6⟩, h7⟩ := h
    simp only [List.cons_append, List.nil_append, List.getD_cons_zero, List.getD_cons_succ, List.length_cons, List.length_nil, decodeN]
    rw [if_neg (by omega), if_neg (fun hh => h2 hh.1), if_pos ⟨h3, ⟨by omega, h4⟩, by omega, h5⟩, if_pos ⟨by omega, by omega⟩, h6]
def vldB (s : ByteArray) : Bool := (rns s).all fun x => decide (0 ≤ idxN x)
theorem idx_err : idxN ((65533 : Nat) : Int) < 0 := by decide +kernel
theorem mem_of_idx {x : Nat} (h : 0 ≤ idxN x) : x ∈ REP := by
  obtain ⟨y, hy, e⟩ := idx_mem (r := (x : Int)) (by omega)
  have : y = x := by omega
  rw [← this]; exact hy
theorem idx_of_mem {x : Nat} (h : x ∈ REP) : 0 ≤ idxN x := by
  rcases idx_cases x with ⟨_, k⟩ | ⟨n, _, e, _⟩
  · exact absurd rfl (k x h)
  · omega
theorem valid_from (s : ByteArray) : ∀ (k pos : Nat), s.size - pos ≤ k → (∀ x ∈ rnsAt s pos, x ∈ REP) → validD (s.data.toList.drop pos) = true ∧ (rnsAt s pos).flatMap encL = s.data.toList.drop pos := by
  intro k
  induction k with
  | zero =>
    intro pos h _
    have : s.data.toList.length = s.size := rfl
    rw [List.drop_eq_nil_of_le (by omega), rnsAt_no (by omega)]
    exact ⟨validD_nil, rfl⟩
  | succ k ih =>
    intro pos h hm
    have hsz : s.data.toList.length = s.size := rfl
    by_cases hp : pos < s.size
    · have hw := width_pos s pos
      rw [rnsAt_yes hp] at hm ⊢
      have hx := hm (Utf8.decode s pos).1 (List.mem_cons_self ..)
      have hne : s.data.toList.drop pos ≠ [] := fun e => by
        have := congrArg List.length e
        simp only [List.length_drop, List.length_nil] at this
        omega
      have hd := decodeL_drop s pos
      have hbad : ¬ ((decodeL (s.data.toList.drop pos)).1 = 65533 ∧ (decodeL (s.data.toList.drop pos)).2 = 1) := by
        rintro ⟨e, _⟩
        rw [hd] at e
        rw [e] at hx
        have := idx_of_mem hx
        have := idx_err
        omega
      obtain ⟨k1, k2⟩ := ih (pos + (Utf8.decode s pos).2) (by omega) (fun x hx => hm x (by simp [hx]))
      have hen := encode_decode _ hne hbad
      rw [hd, encR hx] at hen
      refine ⟨?_, ?_⟩
      · rw [validD_step _ hne, if_neg hbad, hd, List.drop_drop]
        exact k1
      · rw [List.flatMap_cons, k2, hen, ← List.drop_drop, List.take_append_drop]
    · rw [List.drop_eq_nil_of_le (by omega), rnsAt_no hp]
      exact ⟨validD_nil, rfl⟩
theorem vldB_mem {s : ByteArray} (h : vldB s = true) : ∀ x ∈ rns s, x ∈ REP := fun x hx => by
  have := List.all_eq_true.1 h x hx
  exact mem_of_idx (by simpa using this)
theorem vldB_of {s : ByteArray} (h : ∀ x ∈ rns s, x ∈ REP) : vldB s = true := List.all_eq_true.2 fun x hx => decide_eq_true (idx_of_mem (h x hx))
theorem vld_valid {s : ByteArray} (h : vldB s = true) : validD s.data.toList = true := (valid_from s _ 0 (Nat.le_refl _) (vldB_mem h)).1
/-- what is read is what was written -/
theorem enc_rns {s : ByteArray} (h : vldB s = true) : (rns s).flatMap encL = s.data.toList := (valid_from s _ 0 (Nat.le_refl _) (vldB_mem h)).2
theorem rns_from (b : List UInt8) : ∀ (l : List Nat) (pre : List UInt8), (∀ x ∈ l, x ∈ REP) → b = pre ++ l.flatMap encL → rnsAt (strB b) pre.length = l
  | [], pre, _, hb => by
    refine rnsAt_no ?_
    rw [strB_size, hb]; simp
  | x :: l, pre, h, hb => by
    have hx := h x (by simp)
    have hlen := encL_len hx
    have hd : Utf8.decode (strB b) pre.length = (x, (encL x).length) := by
      rw [← decodeL_drop, strB_data, hb, List.drop_left, List.flatMap_cons]
      exact dec_char hx _
    rw [rnsAt_yes (by rw [strB_size, hb]; simp; omega), hd]
    have := rns_from b l (pre ++ encL x) (fun y hy => h y (by simp [hy])) (by rw [hb]; simp)
    rw [List.length_append] at this
    rw [this]
/-- what is written is read again -/
theorem rns_enc {l : List Nat} (h : ∀ x ∈ l, x ∈ REP) : rns (strB (l.flatMap encL)) = l := rns_from _ l [] h rfl
def charL (s : ByteArray) : List Nat := if vldB s = true then rns s else []
theorem charL_mem (s : ByteArray) : ∀ x ∈ charL s, x ∈ REP := by
  unfold charL
  split
  · rename_i h; exact vldB_mem h
  · simp
theorem charL_len (s : ByteArray) : (charL s).length ≤ s.size := by
  unfold charL
  split
  · exact rns_len s
  · simp
def asI (l : List Nat) : List Int := l.map fun (x : Nat) => (x : Int)
theorem RL_ints (l : List Nat) : RL l = ints .i32 (asI l) := by simp [RL, ints, asI]
theorem asI_len (l : List Nat) : (asI l).length = l.length := by simp [asI]
theorem ofB_asI {l : List Nat} (h : ∀ x ∈ l, x ∈ REP) : ofB (asI l) = l.flatMap encL := by
  rw [ofB_all]
  · unfold encs' asI
    rw [List.flatMap_map]
    rfl
  · intro r hr
    simp only [asI, List.mem_map] at hr
    obtain ⟨x, hx, rfl⟩ := hr
    exact idx_of_mem (h x hx)
/-- a character, for comparisons -/
def foldN (x : Nat) : Nat := (lowA (basA x)).toNat
theorem fold_table : (REP.all fun x => decide (foldN x ∈ REP) && decide (0 ≤ basA x ∧ basA x ≤ 9834) && lowA (basA x) == (foldN x : Int) && foldN (foldN x) == foldN x) = true := by kernel_rfl
theorem fold_char {x : Nat} (hx : x ∈ REP) : foldN x ∈ REP ∧ (0 ≤ basA x ∧ basA x ≤ 9834) ∧ lowA (basA x) = (foldN x : Int) ∧ foldN (foldN x) = foldN x := by
  have := List.all_eq_true.1 fold_table x hx
  simp only [Bool.and_eq_true, decide_eq_true_eq, beq_iff_eq] at this
  exact ⟨this.1.1.1, this.1.1.2, this.1.2, this.2⟩
end Go.Gh
