/-
  The walk of the law CrcBursts.
-/
import Derived.Test.YtleolanjlhbjlaaCrcB
namespace Go.Proofs.Ytleolanjlhbjlaa
open Go.RowKit

theorem flipF_kinds (l : List UInt8) (bit pat : Int) : (flipF l bit pat).2 = 0 ∨ (flipF l bit pat).2 = 2 := by
  by_cases h : (flipF l bit pat).2 = 0
  · exact .inl h
  · exact .inr (by rw [flipF_err l bit pat h])
theorem flipF_len (l : List UInt8) (bit pat : Int) : (flipF l bit pat).1.length ≤ l.length := by
  unfold flipF
  split
  · exact Nat.le_refl _
  · split
    · exact Nat.zero_le _
    · cases hf : flipTo l bit pat 32 with
      | none => exact Nat.zero_le _
      | some out => exact Nat.le_of_eq (flipTo_len hf)

set_option maxRecDepth 100000 in
set_option maxHeartbeats 1000000 in
theorem crcBursts_walk (a0 : Option Addr) (len0 cap0 : Nat) (z0 : List Int) (a1 : Int) (a2 : Int) (w : World) (w0 : IsRow .u8 w a0 len0 cap0 z0) (w1 : (Lit.int .i64 a1).wf = true) (w2 : (Lit.int .u32 a2).wf = true) :
    Calls Try.prog 8 #[.slice a0 len0 cap0, .int .i64 a1, .int .u32 a2] w fun e w' => e = .returned (.bool true) ∧ Below w.heap.size w w' := by
  obtain ⟨xs, hr, hl, hc, hm⟩ := w0.bytes
  obtain ⟨hb0, hb1⟩ := wf_int w1
  obtain ⟨hp0, hp1⟩ := wf_u32 w2
  have hr3 := pre300 hr
  have Hr := Lib.hid hr
  have hn : min len0 300 ≤ 300 := by omega
  have hlx : (xs.take (min len0 300)).length = min len0 300 := by simp; omega
  generalize hys : xs.take (min len0 300) = ys at *
  generalize hn3 : min len0 300 = n at *
  have Hn := Lib.hid hn3
  have Hr3 := Lib.hid hr3
  obtain ⟨ql, qe, hR⟩ : ∃ ql qe, flipF (sealF ys) a1 a2 = (ql, qe) := ⟨_, _, rfl⟩
  have hk := flipF_kinds (sealF ys) a1 a2
  have hql := flipF_len (sealF ys) a1 a2
  rw [hR] at hk hql
  simp only at hk hql
  have hsl : (sealF ys).length = n + 4 := by rw [← hlx]; simp [sealF, le4]
  have hqn : ql.length ≤ 304 := by omega
  have HB : Hid (qe = 0 → a2 ≠ 0 → openF ql = ([], 19)) := fun h h2 => burst ys a1 a2 hp0 hp1 h2 ql (by rw [hR, h])
  have HR := Lib.hid hR
  clear hr hr3 w0 w1 w2 hys hn3 hlx hR hql hsl
  go_enter Try.func8, Try.ntmps8
  go_wp2_with (go_at_call 10; refine (awake_any _).mono ?_; rintro e W1 ⟨rfl, hl1⟩)
  go_wp2_with fail
  refine (cut_any a0 len0 cap0 _ _ w.heap.size (Hr.out.below hl1) hc (by omega)).mono ?_
  rintro e W2 ⟨rfl, rfl⟩
  rw [Hn.out]
  have HR1 := Lib.hid (Hr3.out.up hl1)
  go_wp2_with fail
  refine (seal_any a0 n cap0 ys _ HR1.out (by omega)).mono ?_
  rintro e W2 ⟨At, ct, rfl, hownt, hl2⟩
  have HT := Lib.hid (Rd.of_own hownt)
  clear hownt
  go_wp2_with fail
  refine (flip_any At (n + 4) ct (sealF ys) a1 a2 _ HT.out (by omega) hp0 hp1 hb0 hb1).mono ?_
  rintro e W3 ⟨Aq, cq, rfl, hownq, hl3⟩
  rw [HR.out] at hownq ⊢
  simp only at hownq ⊢
  have HQ := Lib.hid (Rd.of_own hownq)
  have hcq := own_cap hownq
  clear hownq
  rcases hk with he | he
  · by_cases hz : a2 = 0
    · have hb : (qe != 0) = false := by simp [he]
      have hbe : (qe == 0) = true := by simp [he]
      have hbz : (a2 == 0) = true := by simp [hz]
      clear he hz
      go_wp2
      go_ret
      exact ⟨rfl, (hl1.trans hl2).trans hl3⟩
    · have hb : (qe != 0) = false := by simp [he]
      have hbz : (a2 == 0) = false := by simp [hz]
      have HO := Lib.hid (HB.out he hz)
      clear he hz
      go_wp2_with fail
      refine (open_any Aq ql.length cq ql _ HQ.out hcq (by omega)).mono ?_
      rintro e W4 ⟨As, cs, rfl, _, hl4⟩
      rw [HO.out]
      simp only [List.length_nil]
      go_wp2
      go_ret
      exact ⟨rfl, ((hl1.trans hl2).trans hl3).trans hl4⟩
  · have hb : (qe != 0) = true := by simp [he]
    have hbe : (qe == 0) = false := by simp [he]
    have hbe2 : (qe == 2) = true := by simp [he]
    clear he
    go_wp2
    go_ret
    exact ⟨rfl, (hl1.trans hl2).trans hl3⟩
end Go.Proofs.Ytleolanjlhbjlaa
