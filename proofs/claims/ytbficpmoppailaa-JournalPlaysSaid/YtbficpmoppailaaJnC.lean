/-
  Plain: the checksum over lists of bytes, numbers as bytes, sealed strings; one flipped bit in a sealed string is found.
-/
import Derived.Test.YtbficpmoppailaaK4
namespace Go.Gh
set_option linter.unusedSimpArgs false
set_option linter.unusedVariables false
set_option maxHeartbeats 4000000

theorem xor_rc (a b c : Nat) : a ^^^ b ^^^ c = a ^^^ c ^^^ b := by rw [Nat.xor_assoc, Nat.xor_comm b c, ← Nat.xor_assoc]
theorem xor_zero_eq {a b : Nat} (h : a ^^^ b = 0) : a = b := by
  have h1 : (a ^^^ b) ^^^ b = a := by rw [Nat.xor_assoc, Nat.xor_self, Nat.xor_zero]
  rw [h, Nat.zero_xor] at h1
  exact h1.symm
def poly : Nat := 2197175160
def stepN (x : Nat) : Nat := (x >>> 1) ^^^ (if x.testBit 0 then poly else 0)
def stepn : Nat → Nat → Nat
  | 0, x => x
  | k + 1, x => stepn k (stepN x)
theorem stepN_xor (a b : Nat) : stepN (a ^^^ b) = stepN a ^^^ stepN b := by
  unfold stepN
  rw [Nat.shiftRight_xor_distrib, Nat.testBit_xor]
  cases a.testBit 0 <;> cases b.testBit 0 <;> simp only [Bool.xor_false, Bool.xor_true, Bool.not_false, Bool.not_true, Bool.false_eq_true, if_true, if_false, Nat.xor_zero]
  · rw [← Nat.xor_assoc]
  · rw [xor_rc]
  · rw [Nat.xor_assoc, Nat.xor_comm (b >>> 1) poly, ← Nat.xor_assoc poly poly, Nat.xor_self, Nat.zero_xor]
theorem stepn_xor : ∀ (k a b : Nat), stepn k (a ^^^ b) = stepn k a ^^^ stepn k b
  | 0, _, _ => rfl
  | k + 1, a, b => by show stepn k (stepN _) = stepn k (stepN a) ^^^ stepn k (stepN b); rw [stepN_xor, stepn_xor k]
theorem stepN_even (y : Nat) : stepN (y <<< 1) = y := by
  unfold stepN
  have h : (y <<< 1).testBit 0 = false := by simp
  rw [h, Nat.shiftLeft_shiftRight]
  simp
theorem stepn_shift : ∀ (k y : Nat), stepn k (y <<< k) = y
  | 0, _ => rfl
  | k + 1, y => by show stepn k (stepN (y <<< (k + 1))) = y; rw [Nat.shiftLeft_add, stepN_even, stepn_shift k]
theorem stepn_add : ∀ (k m x : Nat), stepn (k + m) x = stepn m (stepn k x)
  | 0, m, x => by rw [Nat.zero_add]; rfl
  | k + 1, m, x => by rw [Nat.succ_add]; show stepn (k + m) (stepN x) = stepn m (stepn k (stepN x)); exact stepn_add k m _
theorem stepn_succ (k x : Nat) : stepn (k + 1) x = stepN (stepn k x) := stepn_add k 1 x
theorem stepN_lt {x : Nat} (h : x < 4294967296) : stepN x < 4294967296 := by
  unfold stepN
  refine Nat.xor_lt_two_pow (n := 32) ?_ ?_
  · rw [Nat.shiftRight_eq_div_pow]; omega
  · split <;> decide
theorem stepn_lt : ∀ (k : Nat) {x : Nat}, x < 4294967296 → stepn k x < 4294967296
  | 0, _, h => h
  | k + 1, _, h => stepn_lt k (stepN_lt h)
theorem stepN_pos {x : Nat} (h : x < 4294967296) (h0 : x ≠ 0) : stepN x ≠ 0 := by
  unfold stepN
  intro he
  have h1 := xor_zero_eq he
  rw [Nat.shiftRight_eq_div_pow] at h1
  split at h1
  · unfold poly at h1; omega
  · rename_i hb
    have : x % 2 = 0 := by
      have := Nat.testBit_zero x
      rw [this] at hb
      simp at hb
      omega
    omega
theorem stepn_pos : ∀ (k : Nat) {x : Nat}, x < 4294967296 → x ≠ 0 → stepn k x ≠ 0
  | 0, _, _, h => h
  | k + 1, _, h, h0 => stepn_pos k (stepN_lt h) (stepN_pos h h0)

/-- a string of bytes as a number -/
def numOf : List UInt8 → Nat
  | [] => 0
  | x :: xs => x.toNat ^^^ (numOf xs <<< 8)
def regN (r : Nat) (xs : List UInt8) : Nat := xs.foldl (fun r x => stepn 8 (r ^^^ x.toNat)) r
theorem regN_eq : ∀ (xs : List UInt8) (r : Nat), regN r xs = stepn (8 * xs.length) (r ^^^ numOf xs)
  | [], r => by simp [regN, numOf, stepn]
  | x :: xs, r => by
    show regN (stepn 8 (r ^^^ x.toNat)) xs = _
    rw [regN_eq xs]
    show _ = stepn (8 * (xs.length + 1)) (r ^^^ (x.toNat ^^^ (numOf xs <<< 8)))
    rw [show 8 * (xs.length + 1) = 8 + 8 * xs.length from by omega, stepn_add, ← Nat.xor_assoc, stepn_xor 8 _ (numOf xs <<< 8), stepn_shift]
theorem regN_lt : ∀ (xs : List UInt8) (r : Nat), r < 4294967296 → regN r xs < 4294967296
  | [], r, h => h
  | x :: xs, r, h => regN_lt xs _ (stepn_lt 8 (Nat.xor_lt_two_pow (n := 32) h (Nat.lt_trans x.toNat_lt (by decide))))
theorem regN_snoc (r : Nat) (xs : List UInt8) (x : UInt8) : regN r (xs ++ [x]) = stepn 8 (regN r xs ^^^ x.toNat) := by simp [regN, List.foldl_append]
def ones : Nat := 4294967295
def crcN (xs : List UInt8) : Nat := ones ^^^ regN ones xs
theorem crcN_lt (xs : List UInt8) : crcN xs < 4294967296 := Nat.xor_lt_two_pow (n := 32) (by decide) (regN_lt xs ones (by decide))

/-! ### numbers as bytes -/
def leB : Nat → Nat → List UInt8
  | 0, _ => []
  | k + 1, n => UInt8.ofNat n :: leB k (n / 256)
def leN : List UInt8 → Nat
  | [] => 0
  | x :: xs => x.toNat + 256 * leN xs
theorem leB_length : ∀ (k n : Nat), (leB k n).length = k
  | 0, _ => rfl
  | k + 1, n => by simp [leB, leB_length k]
theorem leN_leB : ∀ (k n : Nat), leN (leB k n) = n % 256 ^ k
  | 0, n => by simp [leB, leN, Nat.mod_one]
  | k + 1, n => by
    have h := leN_leB k (n / 256)
    have h2 : (UInt8.ofNat n).toNat = n % 256 := UInt8.toNat_ofNat'
    simp only [leB, leN, h, h2]
    have h3 : 256 ^ (k + 1) = 256 * 256 ^ k := by rw [Nat.pow_succ, Nat.mul_comm]
    rw [h3, Nat.mod_mul]
theorem leN_lt : ∀ (xs : List UInt8), leN xs < 256 ^ xs.length
  | [] => by simp [leN]
  | x :: xs => by
    have h1 := leN_lt xs
    have h2 := x.toNat_lt
    simp only [leN, List.length_cons, Nat.pow_succ]
    omega
theorem leN_append : ∀ (xs ys : List UInt8), leN (xs ++ ys) = leN xs + 256 ^ xs.length * leN ys
  | [], ys => by simp [leN]
  | x :: xs, ys => by
    show x.toNat + 256 * leN (xs ++ ys) = x.toNat + 256 * leN xs + 256 ^ (xs.length + 1) * leN ys
    rw [leN_append xs ys, Nat.pow_succ, Nat.mul_add, Nat.mul_comm (256 ^ xs.length) 256, Nat.mul_assoc, Nat.add_assoc]
theorem leB_mod : ∀ (k n m : Nat), n % 256 ^ k = m % 256 ^ k → leB k n = leB k m
  | 0, _, _, _ => rfl
  | k + 1, n, m, h => by
    rw [Nat.pow_succ, Nat.mul_comm, Nat.mod_mul, Nat.mod_mul] at h
    have h1 : n % 256 = m % 256 := by omega
    have h2 : n / 256 % 256 ^ k = m / 256 % 256 ^ k := by omega
    simp only [leB]
    rw [leB_mod k _ _ h2]
    congr 1
    rw [← UInt8.toNat_inj, UInt8.toNat_ofNat', UInt8.toNat_ofNat']
    exact h1
theorem leB_leN : ∀ (xs : List UInt8), leB xs.length (leN xs) = xs
  | [] => rfl
  | x :: xs => by
    have h2 := x.toNat_lt
    simp only [List.length_cons, leB, leN]
    rw [show (x.toNat + 256 * leN xs) / 256 = leN xs by omega, leB_leN xs]
    congr 1
    rw [← UInt8.toNat_inj, UInt8.toNat_ofNat']
    omega
theorem leB_get : ∀ (k n i : Nat), i < k → (leB k n)[i]? = some (UInt8.ofNat (n / 2 ^ (8 * i)))
  | k + 1, n, 0, _ => by simp [leB]
  | k + 1, n, i + 1, h => by
    simp only [leB, List.getElem?_cons_succ]
    rw [leB_get k (n / 256) i (by omega), Nat.div_div_eq_div_mul, show 8 * (i + 1) = 8 + 8 * i by omega, Nat.pow_add]
theorem join8 (x y : Nat) (h : x < 256) : x ^^^ (y <<< 8) = x + 256 * y := by
  have h1 : (y <<< 8) ^^^ x = y * 2 ^ 8 + x := by
    rw [Nat.shiftLeft_eq]
    apply Nat.eq_of_testBit_eq
    intro i
    rw [Nat.testBit_xor, Nat.mul_comm, Nat.testBit_two_pow_mul, Nat.testBit_two_pow_mul_add _ (by omega)]
    by_cases hi : i < 8
    · simp [hi, Nat.not_le.2 hi]
    · have hx : x.testBit i = false := Nat.testBit_lt_two_pow (Nat.lt_of_lt_of_le h (Nat.pow_le_pow_right (n := 2) (by omega) (show 8 ≤ i by omega)))
      simp [hi, hx, Nat.not_lt.1 hi]
  rw [Nat.xor_comm, h1]; omega
theorem numOf_leN : ∀ (xs : List UInt8), numOf xs = leN xs
  | [] => rfl
  | x :: xs => by rw [numOf, numOf_leN xs, join8 _ _ x.toNat_lt]; rfl

/-! ### sealed strings -/
def sealB (xs : List UInt8) : List UInt8 := xs ++ leB 4 (crcN xs)
theorem sealB_length (xs : List UInt8) : (sealB xs).length = xs.length + 4 := by simp [sealB, leB_length]
/-- what is in a sealed string -/
def openB (xs : List UInt8) : Option (List UInt8) :=
  if xs.length < 4 then none else if sealB (xs.take (xs.length - 4)) = xs then some (xs.take (xs.length - 4)) else none
theorem openB_seal (xs : List UInt8) : openB (sealB xs) = some xs := by
  have h : (sealB xs).take ((sealB xs).length - 4) = xs := by rw [sealB_length]; simp [sealB]
  unfold openB
  rw [h, if_neg (by rw [sealB_length]; omega), if_pos rfl]
theorem openB_length {xs ys : List UInt8} (h : openB xs = some ys) : xs.length = ys.length + 4 := by
  unfold openB at h
  split at h
  · cases h
  · split at h
    · cases h; simp; omega
    · cases h
theorem openB_of {xs ys : List UInt8} (h : openB xs = some ys) : xs = sealB ys := by
  unfold openB at h
  split at h
  · cases h
  · split at h
    · rename_i h2; cases h; exact h2.symm
    · cases h
theorem residue (ys : List UInt8) : regN ones (sealB ys) = stepn 32 ones := by
  have h2 := regN_lt ys ones (by decide)
  show (ys ++ leB 4 (crcN ys)).foldl _ ones = _
  rw [List.foldl_append]
  show regN (regN ones ys) (leB 4 (crcN ys)) = _
  rw [regN_eq, numOf_leN, leN_leB, leB_length, Nat.mod_eq_of_lt (crcN_lt ys)]
  rw [crcN, Nat.xor_comm ones, ← Nat.xor_assoc, Nat.xor_self, Nat.zero_xor]
/-- bit j of a string, inverted -/
def xorBit (l : List UInt8) (j : Nat) : List UInt8 := l.set (j / 8) (l[j / 8]! ^^^ UInt8.ofNat (2 ^ (j % 8)))
theorem xorBit_length (l : List UInt8) (j : Nat) : (xorBit l j).length = l.length := by simp [xorBit]
theorem pow8 : ∀ p : Nat, p < 8 → (2 : Nat) ^ p < 256
  | 0, _ | 1, _ | 2, _ | 3, _ | 4, _ | 5, _ | 6, _ | 7, _ => by decide
  | n + 8, h => absurd h (by omega)
theorem xorBit_append_right (a b : List UInt8) (j : Nat) (h : 8 * a.length ≤ j) : xorBit (a ++ b) j = a ++ xorBit b (j - 8 * a.length) := by
  unfold xorBit
  have h1 : (j - 8 * a.length) / 8 = j / 8 - a.length := by omega
  have h2 : (j - 8 * a.length) % 8 = j % 8 := by omega
  rw [h1, h2, List.set_append_right _ _ (by omega)]
  congr 3
  rw [List.getElem!_eq_getElem?_getD, List.getElem!_eq_getElem?_getD, List.getElem?_append_right (by omega)]
theorem xorBit_append_left (a b : List UInt8) (j : Nat) (h : j / 8 < a.length) : xorBit (a ++ b) j = xorBit a j ++ b := by
  unfold xorBit
  rw [List.set_append_left _ _ h]
  congr 3
  rw [List.getElem!_eq_getElem?_getD, List.getElem!_eq_getElem?_getD, List.getElem?_append_left h]
theorem numOf_xorBit : ∀ (l : List UInt8) (j : Nat), j < 8 * l.length → numOf (xorBit l j) = numOf l ^^^ 2 ^ j
  | [], j, h => by simp at h
  | x :: xs, j, h => by
    by_cases hj : j < 8
    · have e : xorBit (x :: xs) j = (x ^^^ UInt8.ofNat (2 ^ j)) :: xs := by
        unfold xorBit
        rw [show j / 8 = 0 from by omega, show j % 8 = j from by omega]; rfl
      have hp := pow8 j hj
      rw [e]
      show (x ^^^ UInt8.ofNat (2 ^ j)).toNat ^^^ _ = (x.toNat ^^^ _) ^^^ _
      rw [UInt8.toNat_xor, UInt8.toNat_ofNat', Nat.mod_eq_of_lt hp, xor_rc]
    · have e : xorBit (x :: xs) j = x :: xorBit xs (j - 8) := xorBit_append_right [x] xs j (by simp; omega)
      rw [e]
      show x.toNat ^^^ (numOf (xorBit xs (j - 8)) <<< 8) = (x.toNat ^^^ _) ^^^ _
      simp only [List.length_cons] at h
      rw [numOf_xorBit xs (j - 8) (by omega), Nat.shiftLeft_xor_distrib, Nat.xor_assoc]
      congr 2
      rw [Nat.shiftLeft_eq, ← Nat.pow_add]
      congr 1; omega
/-- one flipped bit in a sealed string is found -/
theorem openB_flip (ys : List UInt8) (j : Nat) (h : j < 8 * (sealB ys).length) : openB (xorBit (sealB ys) j) = none := by
  cases ho : openB (xorBit (sealB ys) j) with
  | none => rfl
  | some zs =>
    exfalso
    have h1 := openB_of ho
    have h2 := residue zs
    rw [← h1] at h2
    have h3 := residue ys
    rw [regN_eq] at h2 h3
    rw [xorBit_length, numOf_xorBit _ _ h, ← Nat.xor_assoc, stepn_xor, h3] at h2
    have h4 : stepn (8 * (sealB ys).length) (2 ^ j) = 0 := by
      have := congrArg (fun x => stepn 32 ones ^^^ x) h2
      simpa [← Nat.xor_assoc] using this
    have h5 : stepn (8 * (sealB ys).length) (2 ^ j) = stepn (8 * (sealB ys).length - j) 1 := by
      rw [show 8 * (sealB ys).length = j + (8 * (sealB ys).length - j) by omega, stepn_add]
      have : 2 ^ j = 1 <<< j := by rw [Nat.shiftLeft_eq, Nat.one_mul]
      rw [this, stepn_shift]
      congr 1; omega
    rw [h5] at h4
    exact stepn_pos _ (by decide) (by decide) h4
end Go.Gh
