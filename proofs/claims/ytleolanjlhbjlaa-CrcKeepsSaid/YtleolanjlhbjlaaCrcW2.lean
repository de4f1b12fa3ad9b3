/-
  The walks of the checksum's functions, continued: the reference's Update, Sum, Seal; cut; Open.
-/
import Derived.Test.YtleolanjlhbjlaaCrcW
namespace Go.Proofs.Ytleolanjlhbjlaa
open Go.RowKit

set_option maxRecDepth 100000 in
set_option maxHeartbeats 400000 in
theorem rupdate_any (sum : Int) (A : Option Addr) (n c : Nat) (xs : List UInt8) (w : World) (B : Nat) (hr : Rd w B 1 A n (U8s xs)) (hn : n ≤ 4611686018427387904) :
    Calls Try.prog 15 #[.int .u32 sum, .slice A n c] w fun e w' => e = .returned (.int .u32 (crcUpd sum xs)) ∧ w = w' := by
  have hx : xs.length = n := by simpa using hr.len
  have Hr := Lib.hid hr
  clear hr
  go_enter Try.func15, Try.ntmps15
  go_wp2
  go_loop [5, 7, 8, 13] (fun r _ _ i => ∃ k : Nat, k ≤ n ∧ i = .int .i64 k ∧ r = .int .u32 (crcReg (inv32 sum) (xs.take k))) (fun _ _ _ i => n - (intOf i).toNat)
  case atStart => exact ⟨0, Nat.zero_le _, rfl, rfl⟩
  case round =>
    obtain ⟨k, hk, rfl, rfl⟩ := hrel
    by_cases hlt : k < n
    · obtain ⟨b, off, u, rfl, hb, hu, hcell⟩ := Hr.out.at_ hlt
      have hts : xs.take (k + 1) = xs.take k ++ [xs[k]] := by rw [List.take_succ_eq_append_getElem (by omega)]
      obtain rfl : u = .int .u8 (xs[k].toNat : Int) := by simpa [hx, hlt] using hu.symm
      have HS : Hid (crcReg (inv32 sum) (xs.take (k + 1)) = crcByte (crcReg (inv32 sum) (xs.take k)) xs[k]) := by
        show _ = _
        rw [hts, crcReg, List.foldl_append]; rfl
      clear hts hu
      generalize hx : xs[k] = x at hcell HS
      clear hx
      generalize crcReg (inv32 sum) (List.take k xs) = r at HS
      have hb8 : (x.toNat : Int) < 256 := by have := x.toNat_lt; omega
      go_wp2
      go_loop [5, 8, 21] (fun r' _ i => ∃ j : Nat, j ≤ 8 ∧ i = .int .i64 j ∧ r' = .int .u32 (Nat.repeat step1 j (bits .xor .u32 r x.toNat))) (fun _ _ i => 8 - (intOf i).toNat)
      case atStart => exact ⟨0, by omega, rfl, rfl⟩
      case round =>
        obtain ⟨j, hj, rfl, rfl⟩ := hrel
        by_cases hj8 : j < 8
        · have HR : Hid (Nat.repeat step1 (j + 1) (bits .xor .u32 r x.toNat) = step1 (Nat.repeat step1 j (bits .xor .u32 r x.toNat))) := rfl
          generalize Nat.repeat step1 j (bits .xor .u32 r x.toNat) = q at HR
          by_cases hbit : bits .and .u32 q 1 = 1
          · have HQ : Hid (step1 q = bits .xor .u32 (q / 2) 2197175160) := by show _ = _; simp [step1, hbit]
            have hbit' : (bits .and .u32 q 1 == 1) = true := by simp [hbit]
            clear hbit
            go_wp2
            go_round
            case rel => exact ⟨j + 1, by omega, by go_num, by rw [HR.out, HQ.out]⟩
            case measure => simp [intOf]; omega
          · have HQ : Hid (step1 q = q / 2) := by show _ = _; simp [step1, hbit]
            have hbit' : (bits .and .u32 q 1 == 1) = false := by simp [hbit]
            clear hbit
            go_wp2
            go_round
            case rel => exact ⟨j + 1, by omega, by go_num, by rw [HR.out, HQ.out]⟩
            case measure => simp [intOf]; omega
        · obtain rfl : j = 8 := by omega
          go_wp2
          go_round
          case rel => exact ⟨k + 1, by omega, by go_num, by rw [HS.out]; rfl⟩
          case measure => simp [intOf]; omega
    · obtain rfl : k = n := by omega
      go_wp2
      go_ret
      exact ⟨by rw [List.take_of_length_le (by omega)]; rfl, rfl⟩

set_option maxHeartbeats 400000 in
theorem rsum_any (A : Option Addr) (n c : Nat) (xs : List UInt8) (w : World) (B : Nat) (hr : Rd w B 1 A n (U8s xs)) (hn : n ≤ 4611686018427387904) :
    Calls Try.prog 13 #[.slice A n c] w fun e w' => e = .returned (.int .u32 (crcSum xs)) ∧ w = w' := by
  have Hr := Lib.hid hr
  clear hr
  go_enter Try.func13, Try.ntmps13
  go_wp2_with (go_at_call 15; refine (rupdate_any _ _ _ _ _ _ _ Hr.out hn).mono ?_; rintro e w' ⟨rfl, rfl⟩)
  go_ret
  exact ⟨rfl, rfl⟩


set_option maxHeartbeats 400000 in
theorem rseal_any (A : Option Addr) (n c : Nat) (xs : List UInt8) (w : World) (hr : Rd w w.heap.size 1 A n (U8s xs)) (hn : n ≤ 70368744177664) :
    Calls Try.prog 23 #[.slice A n c] w fun e w' => ∃ A' c', e = .returned (.slice A' (n + 4) c') ∧ w'.ownsRow w.heap.size 5 1 (.slice A' (n + 4) c') (n + 4) (U8s (sealF xs)) ∧ Le w w' := by
  obtain ⟨i0, hi0, hz0, hz1, hz2⟩ := info_parts u8info
  have Hr := Lib.hid hr
  clear hr
  go_enter Try.func23, Try.ntmps23
  go_wp2_with (first
    | (go_at_call 13; refine (rsum_any _ _ _ _ _ _ Hr.out (by omega)).mono ?_; rintro e w' ⟨rfl, rfl⟩)
    | (at_builtin; refine wpList_append_rd _ rfl (.tmp 6) (.tmp 7) _ rfl w.heap.size 5 i0 _ 1 1 Try.underlying22 hi0 hz0 hz1 hz2 rfl (by omega) (.slice (some ⟨w.heap.size, 0, none⟩) 0 0) 0 [] rfl (World.ownsRow_made _ #[] 0 (Nat.le_refl _) (by unfold maxLen; omega) rfl) w.heap.size A n c (U8s xs) rfl (Hr.out.alloc (Nat.le_refl _) _) (U8s_one _) (by unfold maxLen; omega) (by omega) (by simp) ?_; intro A1 c1 w1 hown1 _ _ hb1; simp only [Nat.zero_add, List.nil_append] at hown1)
    | (at_builtin; refine wpList_append_rd _ rfl (.tmp 8) (.tmp 20) _ rfl w.heap.size 5 i0 _ 1 1 Try.underlying22 hi0 hz0 hz1 hz2 rfl (by omega) _ n (U8s xs) rfl (hown1.alloc _) _ _ 4 4 _ rfl (rd_le4 w1 _ _ (crcSum_range xs).1) (U8s_one _) (by unfold maxLen; omega) (by omega) (by have := hb1.size; simp at this ⊢; omega) ?_; intro A2 c2 w2 hown2 _ _ hb2))
  go_ret
  have hb0 : Below w.heap.size w w1 := ((Below.refl _ _).alloc (Nat.le_refl _) _).trans hb1
  refine ⟨A2, c2, rfl, ?_, ?_⟩
  · simpa [sealF] using hown2
  · exact (hb0.alloc hb0.size _).trans hb2

set_option maxHeartbeats 400000 in
theorem cut_any (A : Option Addr) (n c : Nat) (xs : List Value) (w : World) (B : Nat) (hr : Rd w B 1 A n xs) (hnc : n ≤ c) (hn : n ≤ 9223372036854775807) :
    Calls Try.prog 11 #[.slice A n c] w fun e w' => e = .returned (.slice A (min n 300) c) ∧ w = w' := by
  obtain ⟨i0, hi0, hz0, hz1, hz2⟩ := info_parts u8info
  have Hr := Lib.hid hr
  clear hr
  by_cases h : n ≤ 300
  · have e1 : min n 300 = n := by omega
    rw [e1]; clear e1
    go_enter Try.func11, Try.ntmps11
    go_wp2_with (refine wpList_slice_rd rfl 22 (.tmp 3) none (some (.tmp 6)) rfl 5 i0 1 Try.underlying22 hi0 hz1 B A n c xs rfl Hr.out hnc .i64 .i64 0 n (.inl ⟨rfl, rfl⟩) (.inr rfl) (Nat.zero_le _) (Nat.le_refl _) ?_; intro A1 hA1 hA1'; obtain rfl := hA1' rfl; simp only [Nat.sub_zero])
    go_ret
    exact ⟨rfl, rfl⟩
  · have e1 : min n 300 = 300 := by omega
    rw [e1]; clear e1
    go_enter Try.func11, Try.ntmps11
    go_wp2_with (refine wpList_slice_rd rfl 22 (.tmp 3) none (some (.tmp 6)) rfl 5 i0 1 Try.underlying22 hi0 hz1 B A n c xs rfl Hr.out hnc .i64 .i64 0 300 (.inl ⟨rfl, rfl⟩) (.inr rfl) (Nat.zero_le _) (by omega) ?_; intro A1 hA1 hA1'; obtain rfl := hA1' rfl; simp only [Nat.sub_zero])
    go_ret
    exact ⟨rfl, rfl⟩
end Go.Proofs.Ytleolanjlhbjlaa
