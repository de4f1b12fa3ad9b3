/-
  Plain: a burst of damage in a sealed string is found. The register is a natural number, a string of bytes is one number (the lowest byte first), and n bytes are 8 n steps.
-/
import Derived.Test.YtleolanjlhbjlaaCrcLF
import Derived.Test.YtleolanjlhbjlaaCrcLS
namespace Go.Proofs.Ytleolanjlhbjlaa
open Go.RowKit

theorem xor_rc (a b c : Nat) : a ^^^ b ^^^ c = a ^^^ c ^^^ b := by rw [Nat.xor_assoc, Nat.xor_comm b c, ← Nat.xor_assoc]
theorem xor_zero_eq {a b : Nat} (h : a ^^^ b = 0) : a = b := by
  have h1 : (a ^^^ b) ^^^ b = a := by rw [Nat.xor_assoc, Nat.xor_self, Nat.xor_zero]
  rw [h, Nat.zero_xor] at h1
  exact h1.symm
def poly : Nat := 2197175160
def stepN (x : Nat) : Nat := (x >>> 1) ^^^ (if x.testBit 0 then poly else 0)
def stepn : Nat → Nat → Nat
  | 0, x => x
  | k + 1, x => stepn k (stepN x)
theorem stepN_xor (a b : Nat) : stepN (a ^^^ b) = stepN a ^^^ stepN b := by
  unfold stepN
  rw [Nat.shiftRight_xor_distrib, Nat.testBit_xor]
  cases a.testBit 0 <;> cases b.testBit 0 <;> simp only [Bool.xor_false, Bool.xor_true, Bool.not_false, Bool.not_true, Bool.false_eq_true, if_true, if_false, Nat.xor_zero]
  · rw [← Nat.xor_assoc]
  · rw [xor_rc]
  · rw [Nat.xor_assoc, Nat.xor_comm (b >>> 1) poly, ← Nat.xor_assoc poly poly, Nat.xor_self, Nat.zero_xor]
theorem stepn_xor : ∀ (k a b : Nat), stepn k (a ^^^ b) = stepn k a ^^^ stepn k b
  | 0, _, _ => rfl
  | k + 1, a, b => by show stepn k (stepN _) = stepn k (stepN a) ^^^ stepn k (stepN b); rw [stepN_xor, stepn_xor k]
theorem stepN_even (y : Nat) : stepN (y <<< 1) = y := by
  unfold stepN
  have h : (y <<< 1).testBit 0 = false := by simp
  rw [h, Nat.shiftLeft_shiftRight]
  simp
theorem stepn_shift : ∀ (k y : Nat), stepn k (y <<< k) = y
  | 0, _ => rfl
  | k + 1, y => by show stepn k (stepN (y <<< (k + 1))) = y; rw [Nat.shiftLeft_add, stepN_even, stepn_shift k]
theorem stepn_add : ∀ (k m x : Nat), stepn (k + m) x = stepn m (stepn k x)
  | 0, m, x => by rw [Nat.zero_add]; rfl
  | k + 1, m, x => by rw [Nat.succ_add]; show stepn (k + m) (stepN x) = stepn m (stepn k (stepN x)); exact stepn_add k m _
theorem stepN_lt {x : Nat} (h : x < 4294967296) : stepN x < 4294967296 := by
  unfold stepN
  refine Nat.xor_lt_two_pow (n := 32) ?_ ?_
  · rw [Nat.shiftRight_eq_div_pow]; omega
  · split <;> decide
theorem stepN_pos {x : Nat} (h : x < 4294967296) (h0 : x ≠ 0) : stepN x ≠ 0 := by
  unfold stepN
  intro he
  have h1 := xor_zero_eq he
  rw [Nat.shiftRight_eq_div_pow] at h1
  split at h1
  · unfold poly at h1; omega
  · rename_i hb
    have : x % 2 = 0 := by
      have := Nat.testBit_zero x
      rw [this] at hb
      simp at hb
      omega
    omega
theorem stepn_pos : ∀ (k : Nat) {x : Nat}, x < 4294967296 → x ≠ 0 → stepn k x ≠ 0
  | 0, _, _, h => h
  | k + 1, _, h, h0 => stepn_pos k (stepN_lt h) (stepN_pos h h0)

/-- a string of bytes as a number -/
def numOf : List UInt8 → Nat
  | [] => 0
  | x :: xs => x.toNat ^^^ (numOf xs <<< 8)
def regN (r : Nat) (xs : List UInt8) : Nat := xs.foldl (fun r x => stepn 8 (r ^^^ x.toNat)) r
theorem regN_eq : ∀ (xs : List UInt8) (r : Nat), regN r xs = stepn (8 * xs.length) (r ^^^ numOf xs)
  | [], r => by simp [regN, numOf, stepn]
  | x :: xs, r => by
    show regN (stepn 8 (r ^^^ x.toNat)) xs = _
    rw [regN_eq xs]
    show _ = stepn (8 * (xs.length + 1)) (r ^^^ (x.toNat ^^^ (numOf xs <<< 8)))
    rw [show 8 * (xs.length + 1) = 8 + 8 * xs.length from by omega, stepn_add, ← Nat.xor_assoc, stepn_xor 8 _ (numOf xs <<< 8), stepn_shift]
theorem join8 (x y : Nat) (h : x < 256) : x ^^^ (y <<< 8) = x + 256 * y := by
  have h1 : (y <<< 8) ^^^ x = y * 2 ^ 8 + x := by
    rw [Nat.shiftLeft_eq]
    apply Nat.eq_of_testBit_eq
    intro i
    rw [Nat.testBit_xor, Nat.mul_comm, Nat.testBit_two_pow_mul, Nat.testBit_two_pow_mul_add _ (by omega)]
    by_cases hi : i < 8
    · simp [hi, Nat.not_le.2 hi]
    · have hx : x.testBit i = false := Nat.testBit_lt_two_pow (Nat.lt_of_lt_of_le h (Nat.pow_le_pow_right (n := 2) (by omega) (show 8 ≤ i by omega)))
      simp [hi, hx, Nat.not_lt.1 hi]
  rw [Nat.xor_comm, h1]; omega
theorem numOf_le4 (s : Int) (h0 : 0 ≤ s) (h1 : s < 4294967296) : numOf (le4 s) = s.toNat := by
  unfold le4
  simp only [numOf]
  have a0 := b8_toNat (n := s % 256) (by omega) (by omega)
  have a1 := b8_toNat (n := s / 256 % 256) (by omega) (by omega)
  have a2 := b8_toNat (n := s / 65536 % 256) (by omega) (by omega)
  have a3 := b8_toNat (n := s / 16777216 % 256) (by omega) (by omega)
  rw [join8 _ _ (b8 _).toNat_lt, join8 _ _ (b8 _).toNat_lt, join8 _ _ (b8 _).toNat_lt, join8 _ _ (b8 _).toNat_lt]
  omega

/- the walk's register is this one -/
theorem step1_nat (x : Nat) (h : x < 4294967296) : step1 (x : Int) = (stepN x : Nat) := by
  unfold step1 stepN
  rw [u32_and1 _ (by omega) (by omega), Nat.testBit_zero, Nat.shiftRight_eq_div_pow]
  have hd : ((x : Int) / 2) = ((x / 2 : Nat) : Int) := by omega
  by_cases hb : x % 2 = 1
  · rw [if_pos (by omega), if_pos (by simpa using hb), hd, show (2197175160 : Int) = ((poly : Nat) : Int) from rfl, u32_xor_nat _ _ (by omega) (by decide)]
  · rw [if_neg (by omega), if_neg (by simpa using hb), hd, Nat.xor_zero]
theorem repeat_nat : ∀ (k x : Nat), x < 4294967296 → Nat.repeat step1 k (x : Int) = (stepn k x : Nat) ∧ stepn k x < 4294967296 := by
  intro k
  induction k with
  | zero => intro x h; exact ⟨rfl, h⟩
  | succ k ih =>
    intro x h
    have hs : stepn (k + 1) x = stepN (stepn k x) := by
      rw [stepn_add k 1 x]; rfl
    obtain ⟨h1, h2⟩ := ih x h
    exact ⟨by rw [hs]; show step1 (Nat.repeat step1 k x) = _; rw [h1, step1_nat _ h2], by rw [hs]; exact stepN_lt h2⟩
theorem crcReg_nat : ∀ (xs : List UInt8) (r : Nat), r < 4294967296 → crcReg (r : Int) xs = (regN r xs : Nat) ∧ regN r xs < 4294967296
  | [], r, h => ⟨rfl, h⟩
  | x :: xs, r, h => by
    have hx : r ^^^ x.toNat < 4294967296 := Nat.xor_lt_two_pow (n := 32) h (Nat.lt_trans x.toNat_lt (by decide))
    have hb : crcByte (r : Int) x = (stepn 8 (r ^^^ x.toNat) : Nat) := by
      unfold crcByte
      rw [u32_xor_nat _ _ h (Nat.lt_trans x.toNat_lt (by decide))]
      exact (repeat_nat 8 _ hx).1
    show crcReg (crcByte r x) xs = (regN (stepn 8 (r ^^^ x.toNat)) xs : Nat) ∧ regN (stepn 8 (r ^^^ x.toNat)) xs < _
    rw [hb]
    exact crcReg_nat xs _ (repeat_nat 8 _ hx).2
def ones : Nat := 4294967295
theorem ones_eq : inv32 0 = (ones : Nat) := by decide +kernel
/-- every sealed string leaves the register at one and the same number -/
theorem residue (ys : List UInt8) : regN ones (sealF ys) = stepn 32 ones := by
  obtain ⟨h1, h2⟩ := crcReg_nat ys ones (by decide)
  have hs : crcSum ys = ((ones ^^^ regN ones ys : Nat) : Int) := by
    show inv32 (crcReg (inv32 0) ys) = _
    rw [ones_eq, h1]
    unfold inv32
    rw [show IntKind.u32.max = ((ones : Nat) : Int) from rfl, u32_xor_nat _ _ (by decide) h2]
  have hr := crcSum_range ys
  unfold sealF
  show (ys ++ le4 (crcSum ys)).foldl _ ones = _
  rw [List.foldl_append]
  show regN (regN ones ys) (le4 (crcSum ys)) = _
  rw [regN_eq, numOf_le4 _ hr.1 hr.2, hs]
  rw [show ((ones ^^^ regN ones ys : Nat) : Int).toNat = ones ^^^ regN ones ys from by omega]
  rw [show (le4 ((ones ^^^ regN ones ys : Nat) : Int)).length = 4 from rfl, Nat.xor_comm ones, ← Nat.xor_assoc, Nat.xor_self, Nat.zero_xor]

/- the flipped string as a number -/
theorem numOf_xorBit : ∀ (l : List UInt8) (j : Nat), j < 8 * l.length → numOf (xorBit l j) = numOf l ^^^ 2 ^ j
  | [], j, h => by simp at h
  | x :: xs, j, h => by
    by_cases hj : j < 8
    · have e : xorBit (x :: xs) j = (x ^^^ UInt8.ofNat (2 ^ j)) :: xs := by
        unfold xorBit
        rw [show j / 8 = 0 from by omega, show j % 8 = j from by omega]; rfl
      have hp := (pow8 j hj).2
      rw [e]
      show (x ^^^ UInt8.ofNat (2 ^ j)).toNat ^^^ _ = (x.toNat ^^^ _) ^^^ _
      rw [UInt8.toNat_xor, UInt8.toNat_ofNat', Nat.mod_eq_of_lt hp, xor_rc]
    · have e : xorBit (x :: xs) j = x :: xorBit xs (j - 8) := by
        unfold xorBit
        obtain ⟨q, hq⟩ : ∃ q, j / 8 = q + 1 := ⟨j / 8 - 1, by omega⟩
        rw [hq, show (j - 8) / 8 = q from by omega, show (j - 8) % 8 = j % 8 from by omega]; rfl
      rw [e]
      show x.toNat ^^^ (numOf (xorBit xs (j - 8)) <<< 8) = (x.toNat ^^^ _) ^^^ _
      simp only [List.length_cons] at h
      rw [numOf_xorBit xs (j - 8) (by omega), Nat.shiftLeft_xor_distrib, Nat.xor_assoc]
      congr 2
      rw [Nat.shiftLeft_eq, ← Nat.pow_add]
      congr 1; omega
/-- the flipped bits of the first k of the pattern, as a number -/
def delta (bit pat : Int) : Nat → Nat
  | 0 => 0
  | k + 1 => if patBit pat k = 0 then delta bit pat k else delta bit pat k ^^^ 2 ^ (bit + k).toNat
theorem numOf_bitsOn (bit pat : Int) (l : List UInt8) : ∀ k, fitsTo l.length bit pat k → numOf (bitsOn bit pat k l) = numOf l ^^^ delta bit pat k
  | 0, _ => by simp [bitsOn, delta]
  | k + 1, hf => by
    have ih := numOf_bitsOn bit pat l k (fun i hi => hf i (by omega))
    unfold bitsOn delta
    by_cases hz : patBit pat k = 0
    · rw [if_pos hz, if_pos hz]; exact ih
    · have := hf k (by omega) hz
      rw [if_neg hz, if_neg hz, numOf_xorBit _ _ (by rw [bitsOn_len]; omega), ih, Nat.xor_assoc]
theorem xor_pow (x m : Nat) (h : x < 2 ^ m) : x ^^^ 2 ^ m = x + 2 ^ m := by
  apply Nat.eq_of_testBit_eq
  intro i
  rw [Nat.testBit_xor, Nat.add_comm, Nat.testBit_two_pow]
  rcases Nat.lt_trichotomy i m with hi | rfl | hi
  · rw [Nat.testBit_two_pow_add_gt hi]; simp [show m ≠ i by omega]
  · rw [Nat.testBit_two_pow_add_eq]; simp
  · have h1 : x.testBit i = false := Nat.testBit_lt_two_pow (Nat.lt_of_lt_of_le h (Nat.pow_le_pow_right (by omega) (by omega)))
    have h2 : (2 ^ m + x).testBit i = false := Nat.testBit_lt_two_pow (by
      have : (2 : Nat) ^ m * 2 ≤ 2 ^ i := by rw [← Nat.pow_succ]; exact Nat.pow_le_pow_right (by omega) hi
      omega)
    rw [h1, h2]; simp [show m ≠ i by omega]
theorem patBit_nat (p k : Nat) : patBit (p : Int) k = ((p / 2 ^ k % 2 : Nat) : Int) := by
  unfold patBit
  rw [show ((2 : Int) ^ k) = (((2 : Nat) ^ k : Nat) : Int) from by rw [Int.natCast_pow]; rfl]
  rw [← Int.natCast_ediv]
  omega
theorem mod_succ (p k : Nat) : p % 2 ^ (k + 1) = p % 2 ^ k + 2 ^ k * (p / 2 ^ k % 2) := by
  rw [Nat.pow_succ, Nat.mod_mul]
theorem delta_pos (b p : Nat) : ∀ k, delta (b : Int) (p : Int) k = (p % 2 ^ k) * 2 ^ b
  | 0 => by simp [delta, Nat.mod_one]
  | k + 1 => by
    have ih := delta_pos b p k
    unfold delta
    rw [patBit_nat, mod_succ, Nat.add_mul]
    have hm : p % 2 ^ k < 2 ^ k := Nat.mod_lt _ (Nat.pow_pos (by omega))
    by_cases hz : p / 2 ^ k % 2 = 0
    · rw [if_pos (by omega), hz, ih]; simp
    · have h1 : p / 2 ^ k % 2 = 1 := by omega
      rw [if_neg (by omega), h1, ih, show ((b : Int) + (k : Int)).toNat = k + b from by omega]
      rw [xor_pow _ _ (by rw [Nat.pow_add]; exact Nat.mul_lt_mul_of_pos_right hm (Nat.pow_pos (by omega))), Nat.mul_one, Nat.pow_add]
theorem delta_neg (b p n : Nat) : ∀ k, fitsTo n (-(b : Int)) (p : Int) k → (p % 2 ^ k) = delta (-(b : Int)) (p : Int) k * 2 ^ b
  | 0, _ => by simp [delta, Nat.mod_one]
  | k + 1, hf => by
    have ih := delta_neg b p n k (fun i hi => hf i (by omega))
    unfold delta
    rw [mod_succ]
    have hm : p % 2 ^ k < 2 ^ k := Nat.mod_lt _ (Nat.pow_pos (by omega))
    by_cases hz : p / 2 ^ k % 2 = 0
    · rw [if_pos (by rw [patBit_nat]; omega), hz, ih]; simp
    · have h1 : p / 2 ^ k % 2 = 1 := by omega
      have h2 := hf k (by omega) (by rw [patBit_nat]; omega)
      rw [if_neg (by rw [patBit_nat]; omega), h1, show (-(b : Int) + (k : Int)).toNat = k - b from by omega]
      have hk : 2 ^ (k - b) * 2 ^ b = 2 ^ k := by rw [← Nat.pow_add]; congr 1; omega
      rw [xor_pow, Nat.add_mul, ← ih, hk]
      · omega
      · apply Nat.lt_of_mul_lt_mul_right (a := 2 ^ b)
        rw [← ih, hk]; exact hm

theorem burst (ys : List UInt8) (bit pat : Int) (hp0 : 0 ≤ pat) (hp1 : pat < 4294967296) (hpz : pat ≠ 0) (ql : List UInt8) (h : flipF (sealF ys) bit pat = (ql, 0)) : openF ql = ([], 19) := by
  unfold flipF at h
  rw [if_neg hpz] at h
  by_cases hr : bit < -31 ∨ 16777216 < bit
  · rw [if_pos hr] at h; simp at h
  rw [if_neg hr] at h
  cases hf : flipTo (sealF ys) bit pat 32 with
  | none => rw [hf] at h; simp at h
  | some out =>
    rw [hf] at h
    simp only [Prod.mk.injEq, and_true] at h
    subst h
    obtain ⟨hfit, rfl⟩ := (flipTo_iff _ bit pat 32 _).1 hf
    have hlen : (bitsOn bit pat 32 (sealF ys)).length = ys.length + 4 := by rw [bitsOn_len]; simp [sealF, le4]
    have hlen' : (sealF ys).length = ys.length + 4 := by simp [sealF, le4]
    rw [openF_seal _ _ hlen, if_pos]
    rw [bne_iff_ne]
    intro hs
    have r1 := residue ys
    have r2 := residue ((bitsOn bit pat 32 (sealF ys)).take ys.length)
    rw [hs, regN_eq, hlen, numOf_bitsOn _ _ _ _ hfit, ← Nat.xor_assoc, stepn_xor] at r2
    rw [regN_eq, hlen'] at r1
    rw [r1] at r2
    have hz : stepn (8 * (ys.length + 4)) (delta bit pat 32) = 0 := by
      have := congrArg (fun x => stepn 32 ones ^^^ x) r2
      simpa [← Nat.xor_assoc] using this
    obtain ⟨p, rfl⟩ := Int.eq_ofNat_of_zero_le hp0
    have hp : p < 2 ^ 32 := by
      have : (2 : Nat) ^ 32 = 4294967296 := by decide
      omega
    have hpm : p % 2 ^ 32 = p := Nat.mod_eq_of_lt hp
    rcases Int.le_total 0 bit with hb | hb
    · obtain ⟨b, rfl⟩ := Int.eq_ofNat_of_zero_le hb
      rw [delta_pos, hpm] at hz
      -- the burst begins inside the string
      have hbl : b ≤ 8 * (ys.length + 4) := by
        rcases Nat.lt_or_ge (8 * (ys.length + 4)) b with hlt | hge
        · exfalso
          apply hpz
          have hd : delta (b : Int) (p : Int) 32 = 0 := by
            have key : ∀ k, k ≤ 32 → delta (b : Int) (p : Int) k = 0 := by
              intro k
              induction k with
              | zero => intro _; rfl
              | succ k ih =>
                intro hk
                unfold delta
                by_cases hz' : patBit (p : Int) k = 0
                · rw [if_pos hz']; exact ih (by omega)
                · have := hfit k (by omega) hz'
                  rw [hlen'] at this
                  omega
            exact key 32 (by omega)
          rw [delta_pos, hpm] at hd
          have := Nat.mul_eq_zero.1 hd
          rcases this with h0 | h0
          · omega
          · have := Nat.pow_pos (n := b) (show 0 < 2 by omega); omega
        · exact hge
      rw [show 8 * (ys.length + 4) = b + (8 * (ys.length + 4) - b) from by omega, stepn_add, ← Nat.shiftLeft_eq, stepn_shift] at hz
      exact stepn_pos _ (by omega) (by omega) hz
    · obtain ⟨b, hbe⟩ := Int.eq_ofNat_of_zero_le (show 0 ≤ -bit by omega)
      obtain rfl : bit = -(b : Int) := by omega
      have hd := delta_neg b p _ 32 hfit
      rw [hpm] at hd
      have hd0 : delta (-(b : Int)) (p : Int) 32 ≠ 0 := fun e => by rw [e] at hd; omega
      have hd1 : delta (-(b : Int)) (p : Int) 32 < 4294967296 := by
        have h1 : delta (-(b : Int)) (p : Int) 32 * 1 ≤ delta (-(b : Int)) (p : Int) 32 * 2 ^ b := Nat.mul_le_mul_left _ (Nat.pow_pos (by omega))
        omega
      exact stepn_pos _ hd1 hd0 hz
end Go.Proofs.Ytleolanjlhbjlaa
