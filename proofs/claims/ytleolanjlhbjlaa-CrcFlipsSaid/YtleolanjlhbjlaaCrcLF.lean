/-
  The walk of the law CrcFlips.
-/
import Derived.Test.YtleolanjlhbjlaaCrcL
import Derived.Test.YtleolanjlhbjlaaCrcFl
namespace Go.Proofs.Ytleolanjlhbjlaa
open Go.RowKit

theorem xorBit_get (l : List UInt8) (j i : Nat) (h : i < l.length) : (xorBit l j)[i]'(by rw [xorBit_len]; exact h) = if j / 8 = i then l[i] ^^^ UInt8.ofNat (2 ^ (j % 8)) else l[i] := by
  unfold xorBit
  rw [List.getElem_set]
  split
  · rename_i e; subst e; simp [List.getD, h]
  · rfl
theorem xor_cancel (a b : UInt8) : a ^^^ b ^^^ b = a := by rw [UInt8.xor_assoc, UInt8.xor_self, UInt8.xor_zero]
theorem xorBit_xorBit (l : List UInt8) (j : Nat) : xorBit (xorBit l j) j = l := by
  apply List.ext_getElem
  · rw [xorBit_len, xorBit_len]
  · intro i h1 h2
    rw [xorBit_get _ j i (by rw [xorBit_len]; exact h2), xorBit_get l j i h2]
    split
    · exact xor_cancel _ _
    · rfl
theorem xorBit_comm (l : List UInt8) (j k : Nat) : xorBit (xorBit l j) k = xorBit (xorBit l k) j := by
  apply List.ext_getElem
  · simp only [xorBit_len]
  · intro i h1 h2
    have h : i < l.length := by simpa only [xorBit_len] using h2
    rw [xorBit_get _ k i (by rw [xorBit_len]; exact h), xorBit_get l j i h, xorBit_get _ j i (by rw [xorBit_len]; exact h), xorBit_get l k i h]
    split <;> split <;> first | rfl | (rw [UInt8.xor_assoc, UInt8.xor_comm (UInt8.ofNat _), ← UInt8.xor_assoc])
/-- all flips of the first k bits of the pattern, whether or not they are in range -/
def bitsOn (bit pat : Int) : Nat → List UInt8 → List UInt8
  | 0, l => l
  | k + 1, l => if patBit pat k = 0 then bitsOn bit pat k l else xorBit (bitsOn bit pat k l) (bit + k).toNat
def fitsTo (n : Nat) (bit pat : Int) (k : Nat) : Prop := ∀ i, i < k → patBit pat i ≠ 0 → 0 ≤ bit + i ∧ bit + i < 8 * (n : Int)
theorem flipTo_iff (l : List UInt8) (bit pat : Int) : ∀ (k : Nat) (out : List UInt8), flipTo l bit pat k = some out ↔ fitsTo l.length bit pat k ∧ out = bitsOn bit pat k l
  | 0, out => by
    constructor
    · intro h; injection h with h; exact ⟨fun i hi => by omega, h.symm⟩
    · rintro ⟨_, rfl⟩; rfl
  | k + 1, out => by
    have ih := flipTo_iff l bit pat k
    constructor
    · intro h
      unfold flipTo at h
      obtain ⟨o, ho, h2⟩ := Option.bind_eq_some_iff.1 h
      obtain ⟨hf, rfl⟩ := (ih o).1 ho
      have key : ∀ P : Prop, (patBit pat k ≠ 0 → 0 ≤ bit + (k : Int) ∧ bit + (k : Int) < 8 * (l.length : Int)) → P → fitsTo l.length bit pat (k + 1) ∧ P := fun P hk hP => ⟨fun i hi hne => by
        rcases Nat.lt_or_ge i k with hik | hik
        · exact hf i hik hne
        · obtain rfl : i = k := by omega
          exact hk hne, hP⟩
      split at h2
      · rename_i hz
        injection h2 with h2
        exact key _ (fun hne => absurd hz hne) (by rw [← h2]; show _ = if _ then _ else _; rw [if_pos hz])
      · rename_i hz
        split at h2
        · cases h2
        · injection h2 with h2
          exact key _ (fun _ => by omega) (by rw [← h2]; show _ = if _ then _ else _; rw [if_neg hz])
    · rintro ⟨hf, rfl⟩
      unfold flipTo
      rw [(ih _).2 ⟨fun i hi => hf i (by omega), rfl⟩, Option.bind_some]
      show (if _ then _ else _) = some (if _ then _ else _)
      by_cases hz : patBit pat k = 0
      · rw [if_pos hz, if_pos hz]
      · have := hf k (by omega) hz
        rw [if_neg hz, if_neg hz, if_neg (by omega)]
theorem bitsOn_len (bit pat : Int) : ∀ (k : Nat) (l : List UInt8), (bitsOn bit pat k l).length = l.length
  | 0, _ => rfl
  | k + 1, l => by unfold bitsOn; split; exact bitsOn_len bit pat k l; rw [xorBit_len]; exact bitsOn_len bit pat k l
theorem bitsOn_xor (bit pat : Int) (j : Nat) : ∀ (k : Nat) (l : List UInt8), bitsOn bit pat k (xorBit l j) = xorBit (bitsOn bit pat k l) j
  | 0, _ => rfl
  | k + 1, l => by
    unfold bitsOn
    split
    · exact bitsOn_xor bit pat j k l
    · rw [bitsOn_xor bit pat j k l, xorBit_comm]
theorem bitsOn_twice (bit pat : Int) : ∀ (k : Nat) (l : List UInt8), bitsOn bit pat k (bitsOn bit pat k l) = l
  | 0, _ => rfl
  | k + 1, l => by
    by_cases hz : patBit pat k = 0
    · have e : ∀ x, bitsOn bit pat (k + 1) x = bitsOn bit pat k x := fun x => by show (if _ then _ else _) = _; rw [if_pos hz]
      rw [e, e]; exact bitsOn_twice bit pat k l
    · have e : ∀ x, bitsOn bit pat (k + 1) x = xorBit (bitsOn bit pat k x) (bit + k).toNat := fun x => by show (if _ then _ else _) = _; rw [if_neg hz]
      rw [e, e, bitsOn_xor, bitsOn_twice bit pat k l, xorBit_xorBit]
theorem flipF_twice (l : List UInt8) (bit pat : Int) (h : (flipF l bit pat).2 = 0) : flipF (flipF l bit pat).1 bit pat = (l, 0) := by
  unfold flipF at h ⊢
  by_cases hz : pat = 0
  · simp [hz]
  · rw [if_neg hz] at h ⊢
    rw [if_neg hz]
    by_cases hr : bit < -31 ∨ 16777216 < bit
    · rw [if_pos hr] at h; cases h
    · rw [if_neg hr] at h ⊢
      rw [if_neg hr]
      cases hf : flipTo l bit pat 32 with
      | none => rw [hf] at h; cases h
      | some out =>
        obtain ⟨h1, rfl⟩ := (flipTo_iff l bit pat 32 out).1 hf
        have h2 : flipTo (bitsOn bit pat 32 l) bit pat 32 = some l := (flipTo_iff _ bit pat 32 l).2 ⟨by rw [bitsOn_len]; exact h1, (bitsOn_twice bit pat 32 l).symm⟩
        simp only
        rw [h2]
theorem flipF_err (l : List UInt8) (bit pat : Int) (h : (flipF l bit pat).2 ≠ 0) : flipF l bit pat = ([], 2) := by
  unfold flipF at h ⊢
  split
  · rename_i hz; rw [if_pos hz] at h; exact absurd rfl h
  · rename_i hz
    rw [if_neg hz] at h
    split
    · rfl
    · rename_i hr
      rw [if_neg hr] at h
      split
      · rename_i hf; rw [hf] at h; exact absurd rfl h
      · rfl

theorem wf_u32 {a : Int} (h : (Lit.int .u32 a).wf = true) : 0 ≤ a ∧ a < 4294967296 := by
  simp only [Lit.wf, IntKind.min, IntKind.max, IntKind.signed, IntKind.bits, Bool.and_eq_true] at h
  simp at h
  omega
theorem wf_int {a : Int} (h : (Lit.int .i64 a).wf = true) : -9223372036854775808 ≤ a ∧ a ≤ 9223372036854775807 := by
  simp only [Lit.wf, IntKind.min, IntKind.max, IntKind.signed, IntKind.bits, Bool.and_eq_true, decide_eq_true_eq] at h
  simp at h
  omega

set_option maxRecDepth 100000 in
set_option maxHeartbeats 1000000 in
theorem crcFlips_walk (a0 : Option Addr) (len0 cap0 : Nat) (z0 : List Int) (a1 : Int) (a2 : Int) (w : World) (w0 : IsRow .u8 w a0 len0 cap0 z0) (w1 : (Lit.int .i64 a1).wf = true) (w2 : (Lit.int .u32 a2).wf = true) :
    Calls Try.prog 7 #[.slice a0 len0 cap0, .int .i64 a1, .int .u32 a2] w fun e w' => e = .returned (.bool true) ∧ Below w.heap.size w w' := by
  obtain ⟨xs, hr, hl, hc, hm⟩ := w0.bytes
  obtain ⟨hb0, hb1⟩ := wf_int w1
  obtain ⟨hp0, hp1⟩ := wf_u32 w2
  have hr3 := pre300 hr
  have Hr := Lib.hid hr
  have hn : min len0 300 ≤ 300 := by omega
  have hlx : (xs.take (min len0 300)).length = min len0 300 := by simp; omega
  generalize hys : xs.take (min len0 300) = ys at *
  generalize hn3 : min len0 300 = n at *
  have Hn := Lib.hid hn3
  have Hr3 := Lib.hid hr3
  have Hlx := Lib.hid hlx
  clear hr hr3 w0 w1 w2 hys hn3 hlx
  obtain ⟨ql, qe, hR⟩ : ∃ ql qe, flipF ys a1 a2 = (ql, qe) := ⟨_, _, rfl⟩
  have HT : Hid (qe = 0 → flipF ql a1 a2 = (ys, 0)) := by
    intro h
    have := flipF_twice ys a1 a2 (by rw [hR]; exact h)
    rw [hR] at this; exact this
  have HE : Hid (qe ≠ 0 → ql.length = 0) := by
    intro h
    have := flipF_err ys a1 a2 (by rw [hR]; exact h)
    rw [hR] at this; injection this with h1 _; rw [h1]; rfl
  have hql : ql.length ≤ 70368744177664 := by
    by_cases h : qe = 0
    · have h1 : (flipF ys a1 a2).1.length = ys.length := by
        have h2 : (flipF ys a1 a2).2 = 0 := by rw [hR]; exact h
        unfold flipF at h2 ⊢
        split
        · rfl
        · rename_i hz
          rw [if_neg hz] at h2
          split
          · rename_i hr; rw [if_pos hr] at h2; cases h2
          · rename_i hr
            rw [if_neg hr] at h2
            cases hf : flipTo ys a1 a2 32 with
            | none => rw [hf] at h2; cases h2
            | some out => exact flipTo_len hf
      rw [hR, Hlx.out] at h1
      simp only at h1
      omega
    · have := HE.out h; omega
  have HR := Lib.hid hR
  clear hR
  go_enter Try.func7, Try.ntmps7
  go_wp2_with (go_at_call 10; refine (awake_any _).mono ?_; rintro e W1 ⟨rfl, hl1⟩)
  go_wp2_with fail
  refine (cut_any a0 len0 cap0 _ _ w.heap.size (Hr.out.below hl1) hc (by omega)).mono ?_
  rintro e W2 ⟨rfl, rfl⟩
  rw [Hn.out]
  have HR1 := Lib.hid (Hr3.out.up hl1)
  go_wp2_with fail
  refine (flip_any a0 n cap0 ys a1 a2 _ HR1.out (by omega) hp0 hp1 hb0 hb1).mono ?_
  rintro e W2 ⟨Aq, cq, rfl, hownq, hl2⟩
  rw [HR.out] at hownq ⊢
  simp only at hownq ⊢
  have HQ1 := Lib.hid (Rd.of_own hownq)
  have HR2 := Lib.hid (HR1.out.up hl2)
  clear hownq
  go_wp2_with fail
  refine (rflip_any a0 n cap0 ys a1 a2 _ HR2.out (by omega) hp0 hp1 hb0 hb1).mono ?_
  rintro e W3 ⟨Ar, cr, rfl, hownr, hl3⟩
  rw [HR.out] at hownr ⊢
  simp only at hownr ⊢
  have HV := Lib.hid (Rd.of_own hownr)
  have HQ := Lib.hid (HQ1.out.up hl3)
  have HR3 := Lib.hid (HR2.out.up hl3)
  clear hownr
  by_cases he : qe = 0
  · have hb : (qe != 0) = false := by simp [he]
    have HT2 := Lib.hid (HT.out he)
    clear he
    go_wp2_with (first
      | (refine wpList_bytes_string rfl 22 9 (.tmp 31) rfl 5 Try.underlying22 Try.underlying5 Try.underlying9 _ _ _ _ ql rfl HQ.out ?_)
      | (refine wpList_bytes_string rfl 22 9 (.tmp 33) rfl 5 Try.underlying22 Try.underlying5 Try.underlying9 _ _ _ _ ql rfl HV.out ?_))
    refine (flip_any Aq ql.length cq ql a1 a2 _ HQ.out hql hp0 hp1 hb0 hb1).mono ?_
    rintro e W4 ⟨As, cs, rfl, howns, hl4⟩
    rw [HT2.out] at howns ⊢
    simp only at howns ⊢
    have HS := Lib.hid (Rd.of_own howns)
    have HR4 := Lib.hid (HR3.out.up hl4)
    clear howns
    go_wp2_with (first
      | (refine wpList_bytes_string rfl 22 9 (.tmp 56) rfl 5 Try.underlying22 Try.underlying5 Try.underlying9 _ _ _ _ ys rfl HS.out ?_)
      | (refine wpList_bytes_string rfl 22 9 (.tmp 58) rfl 5 Try.underlying22 Try.underlying5 Try.underlying9 _ _ _ _ ys rfl HR4.out ?_))
    go_ret
    exact ⟨rfl, ((hl1.trans hl2).trans hl3).trans hl4⟩
  · have hb : (qe != 0) = true := by simp [he]
    have hlq : ((ql.length : Nat) : Int) = 0 := by have := HE.out he; omega
    clear he
    have hbl : (((ql.length : Nat) : Int) == 0) = true := by simp [hlq]
    clear hlq
    go_wp2_with (first
      | (refine wpList_bytes_string rfl 22 9 (.tmp 31) rfl 5 Try.underlying22 Try.underlying5 Try.underlying9 _ _ _ _ ql rfl HQ.out ?_)
      | (refine wpList_bytes_string rfl 22 9 (.tmp 33) rfl 5 Try.underlying22 Try.underlying5 Try.underlying9 _ _ _ _ ql rfl HV.out ?_))
    go_ret
    exact ⟨rfl, (hl1.trans hl2).trans hl3⟩
end Go.Proofs.Ytleolanjlhbjlaa
