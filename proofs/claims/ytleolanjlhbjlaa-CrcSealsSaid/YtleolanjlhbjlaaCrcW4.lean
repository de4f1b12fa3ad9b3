/-
  The walks of the checksum's functions, continued: the reference's Open, whose test runs its operations in any order.
-/
import Derived.Test.YtleolanjlhbjlaaCrcW3
import Derived.Test.YtleolanjlhbjlaaReg
namespace Go.Proofs.Ytleolanjlhbjlaa
open Go.RowKit

set_option maxHeartbeats 1000000 in
theorem ropen_any (A : Option Addr) (n c : Nat) (xs : List UInt8) (w : World) (hr : Rd w w.heap.size 1 A n (U8s xs)) (hnc : n ≤ c) (hn : n ≤ 70368744177664) :
    Calls Try.prog 21 #[.slice A n c] w (OpenPost w (openF xs)) := by
  obtain ⟨i0, hi0, hz0, hz1, hz2⟩ := info_parts u8info
  have hlen : xs.length = n := by simpa using hr.len
  by_cases h4 : n < 4
  · rw [openF_short xs (by omega)]
    clear hr hnc
    go_enter Try.func21, Try.ntmps21
    go_wp2
    go_ret2
    exact OpenPost.nil w 4
  · obtain ⟨m, rfl⟩ : ∃ m, n = m + 4 := ⟨n - 4, by omega⟩
    have hpre : Rd w w.heap.size 1 A m (U8s (xs.take m)) := by have := hr.pre (m := m) (by omega); simpa [U8s] using this
    obtain ⟨B0, hB0⟩ : ∃ b : Bool, b = (sealF (xs.take m) != xs) := ⟨_, rfl⟩
    have HB := Lib.hid hB0
    have Hr := Lib.hid hr
    have Hpre := Lib.hid hpre
    have HL := Lib.hid hlen
    have HT := Lib.hid (show (xs.take m).length = m by simp; omega)
    clear hr hpre hlen hB0
    go_enter Try.func21, Try.ntmps21
    go_wp2
    refine wp_region_facts [Fact.is (.slice A (m + 4) c), Fact.is (.int .i64 m), Fact.is (.slice A m c), Fact.rd 1 (m + 4) (U8s (sealF (xs.take m))), Fact.is (.string ⟨(sealF (xs.take m)).toArray⟩),
      Fact.is (.slice A (m + 4) c), Fact.is (.string ⟨xs.toArray⟩), Fact.is (.bool B0)] _ _ mixed (by kernel_rfl) (sz_of (n := 23) (by kernel_rfl)) ?_ ?_
    · intro i o ho a w1 hl _ hs K hK
      match i, ho with
      | 0, ho =>
        obtain rfl := Option.some.inj ho
        have s0 : a.tmps.getD 0 undef = .slice A (m + 4) c := hs 0
        exact wpOp_plain ho rfl (wp_move _ (.inl rfl) s0 (hK _ _ (Le.refl _) rfl))
      | 1, ho =>
        obtain rfl := Option.some.inj ho
        have s4 : a.tmps.getD 4 undef = .int .i64 m := hs 4
        exact wpOp_plain ho rfl (wp_move _ (.inl rfl) s4 (hK _ _ (Le.refl _) rfl))
      | 2, ho =>
        obtain rfl := Option.some.inj ho
        have s10 : a.tmps.getD 10 undef = .slice A (m + 4) c := sees_dep hs 10 0 (by kernel_rfl)
        have s11 : a.tmps.getD 11 undef = .int .i64 m := sees_dep hs 11 1 (by kernel_rfl)
        refine wpOp_plain ho rfl (wp_slice_rd 22 (.tmp 10) none (some (.tmp 11)) rfl 5 i0 1 Try.underlying22 hi0 hz1 w.heap.size A (m + 4) c _ s10 (Hr.out.below hl) hnc .i64 .i64 0 m (.inl ⟨rfl, rfl⟩) (.inr (congrArg some s11)) (Nat.zero_le _) (by omega) ?_)
        intro A1 _ hA1
        obtain rfl := hA1 rfl
        exact hK _ _ (Le.refl _) rfl
      | 3, ho =>
        obtain rfl := Option.some.inj ho
        have s12 : a.tmps.getD 12 undef = .slice A m c := sees_dep hs 12 2 (by kernel_rfl)
        refine wpOp_plain ho rfl (wp_call 23 _ _ rfl (by kernel_rfl) (args := #[.slice A m c]) (by simp only [List.map_toArray, List.map_cons, List.map_nil, Act.eval, s12]) ?_)
        refine (rseal_any A m c (xs.take m) w1 ((Hpre.out.below hl).more hl.size) (by omega)).mono ?_
        rintro e w2 ⟨A', c', rfl, hown, hl2⟩
        exact ⟨_, rfl, hK _ _ hl2 ⟨A', c', rfl, own_cap hown, Rd.of_own hown⟩⟩
      | 4, ho =>
        obtain rfl := Option.some.inj ho
        obtain ⟨A', c', s13, _, hr⟩ : ∃ A' c', a.tmps.getD 13 undef = .slice A' (m + 4) c' ∧ m + 4 ≤ c' ∧ Rd w1 w1.heap.size 1 A' (m + 4) (U8s (sealF (xs.take m))) := sees_dep hs 13 3 (by kernel_rfl)
        exact wpOp_plain ho rfl (wp_bytes_string _ _ _ rfl 5 Try.underlying22 Try.underlying5 Try.underlying9 _ _ _ _ _ s13 hr (hK _ _ (Le.refl _) rfl))
      | 5, ho =>
        obtain rfl := Option.some.inj ho
        have s0 : a.tmps.getD 0 undef = .slice A (m + 4) c := hs 0
        exact wpOp_plain ho rfl (wp_move _ (.inl rfl) s0 (hK _ _ (Le.refl _) rfl))
      | 6, ho =>
        obtain rfl := Option.some.inj ho
        have s15 : a.tmps.getD 15 undef = .slice A (m + 4) c := sees_dep hs 15 5 (by kernel_rfl)
        exact wpOp_plain ho rfl (wp_bytes_string _ _ _ rfl 5 Try.underlying22 Try.underlying5 Try.underlying9 _ _ _ _ _ s15 (Hr.out.below hl) (hK _ _ (Le.refl _) rfl))
      | 7, ho =>
        obtain rfl := Option.some.inj ho
        have s14 : a.tmps.getD 14 undef = .string ⟨(sealF (xs.take m)).toArray⟩ := sees_dep hs 14 4 (by kernel_rfl)
        have s16 : a.tmps.getD 16 undef = .string ⟨xs.toArray⟩ := sees_dep hs 16 6 (by kernel_rfl)
        exact wpOp_plain ho rfl (wp_bin _ _ _ _ _ rfl s14 s16 (by rw [HB.out]; exact run_str_neq _ _ _ _ _) (hK _ _ (Le.refl _) rfl))
      | _ + 8, ho => cases ho
    · intro a w1 hl hd hsz hE
      have e17 : a.tmps.getD 17 undef = .bool B0 := hE 17
      have e0 : a.tmps.getD 0 undef = .slice A (m + 4) c := hE 0
      have e2 : a.tmps.getD 2 undef = .slice none 0 0 := hE 2
      have e3 : a.tmps.getD 3 undef = .int .i64 0 := hE 3
      have e4 : a.tmps.getD 4 undef = .int .i64 m := hE 4
      rw [act_of a 23 hsz hd]
      have hr : ((List.range 23).map fun t => a.tmps.getD t undef).toArray = #[Value.slice A (m + 4) c, a.tmps.getD 1 undef, .slice none 0 0, .int .i64 0, .int .i64 m, a.tmps.getD 5 undef, a.tmps.getD 6 undef, a.tmps.getD 7 undef, a.tmps.getD 8 undef, a.tmps.getD 9 undef, a.tmps.getD 10 undef, a.tmps.getD 11 undef, a.tmps.getD 12 undef, a.tmps.getD 13 undef, a.tmps.getD 14 undef, a.tmps.getD 15 undef, a.tmps.getD 16 undef, .bool B0, a.tmps.getD 18 undef, a.tmps.getD 19 undef, a.tmps.getD 20 undef, a.tmps.getD 21 undef, a.tmps.getD 22 undef] := by
        rw [← e0, ← e2, ← e3, ← e4, ← e17]; rfl
      rw [hr]
      clear hE e0 e2 e3 e4 e17 hr hsz hd
      generalize a.tmps.getD 1 undef = x1, a.tmps.getD 5 undef = x5, a.tmps.getD 6 undef = x6, a.tmps.getD 7 undef = x7, a.tmps.getD 8 undef = x8, a.tmps.getD 9 undef = x9, a.tmps.getD 10 undef = x10, a.tmps.getD 11 undef = x11, a.tmps.getD 12 undef = x12, a.tmps.getD 13 undef = x13, a.tmps.getD 14 undef = x14, a.tmps.getD 15 undef = x15, a.tmps.getD 16 undef = x16, a.tmps.getD 18 undef = x18, a.tmps.getD 19 undef = x19, a.tmps.getD 20 undef = x20, a.tmps.getD 21 undef = x21, a.tmps.getD 22 undef = x22
      clear a
      have Hl := Lib.hid hl
      clear hl
      cases hB : B0 with
      | true =>
        have HO : Hid (openF xs = ([], 19)) := by show _ = _; rw [openF_seal xs m HL.out, ← HB.out, if_pos hB]
        clear HB hB
        go_wp2
        go_ret2
        rw [HO.out]
        exact ⟨none, 0, rfl, World.ownsRow_nil _ _ _ _, Hl.out⟩
      | false =>
        have HO : Hid (openF xs = (xs.take m, 0)) := by show _ = _; rw [openF_seal xs m HL.out, ← HB.out, if_neg (by simp [hB])]
        clear HB hB
        have hw := Hl.out.size
        go_wp2_with (first
          | (refine wpList_slice_rd rfl 22 (.tmp 19) none (some (.tmp 20)) rfl 5 i0 1 Try.underlying22 hi0 hz1 w.heap.size _ (m + 4) c _ rfl ((Hr.out.below Hl.out).alloc hw _) hnc .i64 .i64 0 m (.inl ⟨rfl, rfl⟩) (.inr rfl) (Nat.zero_le _) (by omega) ?_; intro A1 hA1 hA1'; obtain rfl := hA1' rfl; simp only [Nat.sub_zero])
          | (at_builtin; refine wpList_append_rd _ rfl (.tmp 18) (.tmp 21) _ rfl w.heap.size 5 i0 _ 1 1 Try.underlying22 hi0 hz0 hz1 hz2 rfl (by omega) (.slice (some ⟨w1.heap.size, 0, none⟩) 0 0) 0 [] rfl (World.ownsRow_made _ #[] 0 hw (by unfold maxLen; omega) rfl) w.heap.size A m c (U8s (xs.take m)) rfl ((Hpre.out.below Hl.out).alloc hw _) (U8s_one _) (by unfold maxLen; omega) (by omega) (Nat.le_trans hw (by simp)) ?_; intro A2 c2 w2 hown2 _ _ hb2; simp only [Nat.zero_add, List.nil_append] at hown2))
        go_ret2
        rw [HO.out]
        refine ⟨A2, c2, ?_, ?_, (Below.alloc Hl.out hw _).trans hb2⟩
        · simp [HT.out]
        · show World.ownsRow _ _ _ _ (Value.slice A2 (xs.take m).length c2) (xs.take m).length _
          rw [HT.out]; exact hown2
end Go.Proofs.Ytleolanjlhbjlaa
