/-
  The walks of the laws CrcSums, CrcGoesOn, CrcTexts.
-/
import Derived.Test.YtleolanjlhbjlaaCrcA
import Derived.Test.YtleolanjlhbjlaaCrcT2
import Derived.Test.YtleolanjlhbjlaaRow
namespace Go.Proofs.Ytleolanjlhbjlaa
open Go.RowKit

theorem bits_xor_self (m r : Int) (h : 0 ≤ r) (h1 : r < 4294967296) (h2 : 0 ≤ m) (h3 : m < 4294967296) : bits .xor .u32 m (bits .xor .u32 m r) = r := by
  rw [u32_xor m r h2 h3 h h1]
  have hx : m.toNat ^^^ r.toNat < 2 ^ 32 := Nat.xor_lt_two_pow (by omega) (by omega)
  rw [u32_xor m _ h2 h3 (by omega) (by omega)]
  rw [show ((m.toNat ^^^ r.toNat : Nat) : Int).toNat = m.toNat ^^^ r.toNat from by omega, ← Nat.xor_assoc, Nat.xor_self, Nat.zero_xor]
  omega
theorem inv32_inv32 (r : Int) (h : 0 ≤ r) (h1 : r < 4294967296) : inv32 (inv32 r) = r := bits_xor_self _ r h h1 (by decide) (by decide)
theorem step1_range (r : Int) (h : 0 ≤ r ∧ r < 4294967296) : 0 ≤ step1 r ∧ step1 r < 4294967296 := by
  unfold step1
  split
  · exact bits_u32_range _ _ _ (by simp)
  · omega
theorem repeat_range : ∀ (k : Nat) (r : Int), (0 ≤ r ∧ r < 4294967296) → 0 ≤ Nat.repeat step1 k r ∧ Nat.repeat step1 k r < 4294967296
  | 0, _, h => h
  | k + 1, r, h => step1_range _ (repeat_range k r h)
theorem crcReg_range (xs : List UInt8) : ∀ r : Int, (0 ≤ r ∧ r < 4294967296) → 0 ≤ crcReg r xs ∧ crcReg r xs < 4294967296 := by
  induction xs with
  | nil => intro r h; exact h
  | cons x xs ih => intro r _; exact ih _ (repeat_range 8 _ (bits_u32_range _ _ _ (by simp)))
theorem crcUpd_append (s : Int) (a b : List UInt8) : crcUpd (crcUpd s a) b = crcUpd s (a ++ b) := by
  unfold crcUpd
  have h := crcReg_range a (inv32 s) (inv32_range s)
  rw [inv32_inv32 _ h.1 h.2]
  unfold crcReg
  rw [List.foldl_append]

set_option maxHeartbeats 400000 in
theorem crcSums_walk (a0 : Option Addr) (len0 cap0 : Nat) (z0 : List Int) (a1 : Int) (w : World) (w0 : IsRow .u8 w a0 len0 cap0 z0) (_w1 : (Lit.int .u32 a1).wf = true) :
    Calls Try.prog 3 #[.slice a0 len0 cap0, .int .u32 a1] w fun e w' => e = .returned (.bool true) ∧ Below w.heap.size w w' := by
  obtain ⟨xs, hr, hl, hc, hm⟩ := w0.bytes
  have hr3 : Rd w w.heap.size 1 a0 (min len0 300) (U8s (xs.take (min len0 300))) := by
    have := hr.pre (m := min len0 300) (by omega)
    simpa [U8s, List.map_take] using this
  have Hr := Lib.hid hr
  have Hr3 := Lib.hid hr3
  clear hr hr3 w0 _w1
  have hn : min len0 300 ≤ 300 := by omega
  have hc1 : (crcSum (xs.take (min len0 300)) == crcSum (xs.take (min len0 300))) = true := by simp
  have hc2 : (crcUpd a1 (xs.take (min len0 300)) == crcUpd a1 (xs.take (min len0 300))) = true := by simp
  generalize hys : xs.take (min len0 300) = ys at *
  generalize hn3 : min len0 300 = n at *
  have Hn := Lib.hid hn3
  clear hys hn3
  go_enter Try.func3, Try.ntmps3
  go_wp2_with (first
    | (go_at_call 10; refine (awake_any _).mono ?_; rintro e w1 ⟨rfl, hl1⟩)
    | (go_at_call 11; refine (cut_any a0 len0 cap0 _ _ w.heap.size (Hr.out.below hl1) hc (by omega)).mono ?_; rintro e w2 ⟨rfl, rfl⟩; rw [Hn.out])
    | (go_at_call 12; refine (sum_any a0 n cap0 ys _ w.heap.size (Hr3.out.below hl1) (by omega)).mono ?_; rintro e w2 ⟨rfl, rfl⟩)
    | (go_at_call 13; refine (rsum_any a0 n cap0 ys _ w.heap.size (Hr3.out.below hl1) (by omega)).mono ?_; rintro e w2 ⟨rfl, rfl⟩)
    | (go_at_call 14; refine (update_any a1 a0 n cap0 ys _ w.heap.size (Hr3.out.below hl1) (by omega)).mono ?_; rintro e w2 ⟨rfl, rfl⟩)
    | (go_at_call 15; refine (rupdate_any a1 a0 n cap0 ys _ w.heap.size (Hr3.out.below hl1) (by omega)).mono ?_; rintro e w2 ⟨rfl, rfl⟩))
  go_ret
  exact ⟨rfl, hl1⟩
end Go.Proofs.Ytleolanjlhbjlaa
