/-
  The walks of the checksum's functions, continued: Open.
-/
import Derived.Test.YtleolanjlhbjlaaCrcW2
namespace Go.Proofs.Ytleolanjlhbjlaa
open Go.RowKit


/-- what Open's two walks have in common: the sum of the first m bytes -/
theorem ret_pair {v v' : Value} {k : IntKind} {a b : Int} (h : v = v') (h' : a = b) : Ending.returned (.tuple #[v, .int k a]) = .returned (.tuple #[v', .int k b]) := by rw [h, h']

def OpenPost (w : World) (r : List UInt8 × Int) (e : Ending) (w' : World) : Prop :=
  ∃ A' c', e = .returned (.tuple #[.slice A' r.1.length c', .int .i64 r.2]) ∧ w'.ownsRow w.heap.size 5 1 (.slice A' r.1.length c') r.1.length (U8s r.1) ∧ Le w w'
theorem OpenPost.nil (w : World) (k : Int) : OpenPost w ([], k) (.returned (.tuple #[.slice none 0 0, .int .i64 k])) w :=
  ⟨none, 0, rfl, World.ownsRow_nil _ _ _ _, Le.refl w⟩

set_option maxHeartbeats 1000000 in
theorem open_any (A : Option Addr) (n c : Nat) (xs : List UInt8) (w : World) (hr : Rd w w.heap.size 1 A n (U8s xs)) (hnc : n ≤ c) (hn : n ≤ 70368744177664) :
    Calls Try.prog 20 #[.slice A n c] w (OpenPost w (openF xs)) := by
  obtain ⟨i0, hi0, hz0, hz1, hz2⟩ := info_parts u8info
  have hlen : xs.length = n := by simpa using hr.len
  by_cases h4 : n < 4
  · rw [openF_short xs (by omega)]
    clear hr hnc
    go_enter Try.func20, Try.ntmps20
    go_wp2
    go_ret2
    exact OpenPost.nil w 4
  · obtain ⟨m, rfl⟩ : ∃ m, n = m + 4 := ⟨n - 4, by omega⟩
    obtain ⟨b, off, rfl, hb, hc⟩ := hr.2 (by omega)
    have hpre : Rd w w.heap.size 1 (some ⟨b, off, none⟩) m (U8s (xs.take m)) := by have := hr.pre (m := m) (by omega); simpa [U8s] using this
    have hs := crcSum_range (xs.take m)
    have c0 : w.cell? ⟨b, off + m, none⟩ = some (.int .u8 (xs[m].toNat : Int)) := hc m _ (by simp [hlen])
    have c1 : w.cell? ⟨b, off + (m + 1), none⟩ = some (.int .u8 (xs[m + 1].toNat : Int)) := hc (m + 1) _ (by simp [hlen])
    have c2 : w.cell? ⟨b, off + (m + 2), none⟩ = some (.int .u8 (xs[m + 2].toNat : Int)) := hc (m + 2) _ (by simp [hlen])
    have c3 : w.cell? ⟨b, off + (m + 3), none⟩ = some (.int .u8 (xs[m + 3].toNat : Int)) := hc (m + 3) _ (by simp [hlen])
    have HY := Lib.hid (openF_yes xs m hlen hs.1)
    have HN := Lib.hid (openF_no xs m hlen hs.1)
    have HS := Lib.hid (sum_any (some ⟨b, off, none⟩) m c (xs.take m) w _ hpre (by omega))
    have Hr := Lib.hid hr
    have Hpre := Lib.hid hpre
    clear hr hpre hc
    generalize (xs[m].toNat : Int) = x0 at c0 HY HN
    generalize (xs[m + 1].toNat : Int) = x1 at c1 HY HN
    generalize (xs[m + 2].toNat : Int) = x2 at c2 HY HN
    generalize (xs[m + 3].toNat : Int) = x3 at c3 HY HN
    generalize crcSum (List.take m xs) = s at hs HY HN HS
    obtain ⟨hs0, hs1⟩ := hs
    clear h4
    by_cases e0 : x0 = s % 256
    · by_cases e1 : x1 = s / 256 % 256
      · by_cases e2 : x2 = s / 65536 % 256
        · by_cases e3 : x3 = s / 16777216 % 256
          · rw [HY.out e0 e1 e2 e3]
            clear HY HN
            have hT : (xs.take m).length = m := by simp; omega
            have HT := Lib.hid hT
            clear hT hlen
            generalize xs.take m = ys at *
            have t0 : (x0 != s % 256) = false := by simp [e0]
            have t1 : (x1 != s / 256 % 256) = false := by simp [e1]
            have t2 : (x2 != s / 65536 % 256) = false := by simp [e2]
            have t3 : (x3 != s / 16777216 % 256) = false := by simp [e3]
            clear e0 e1 e2 e3
            go_enter Try.func20, Try.ntmps20
            go_wp2_with (first
              | (refine wpList_slice_rd rfl 22 (.tmp 11) none (some (.tmp 12)) rfl 5 i0 1 Try.underlying22 hi0 hz1 w.heap.size _ (m + 4) c _ rfl Hr.out hnc .i64 .i64 0 m (.inl ⟨rfl, rfl⟩) (.inr rfl) (Nat.zero_le _) (by omega) ?_; intro A1 hA1 hA1'; obtain rfl := hA1' rfl; simp only [Nat.sub_zero])
              | (refine wpList_slice_rd rfl 22 (.tmp 55) none (some (.tmp 56)) rfl 5 i0 1 Try.underlying22 hi0 hz1 w.heap.size _ (m + 4) c _ rfl Hr.out hnc .i64 .i64 0 m (.inl ⟨rfl, rfl⟩) (.inr rfl) (Nat.zero_le _) (by omega) ?_; intro A1 hA1 hA1'; obtain rfl := hA1' rfl; simp only [Nat.sub_zero])
              | (go_at_call 12; refine HS.out.mono ?_; rintro e w' ⟨rfl, rfl⟩)
              | (at_builtin; refine wpList_append_rd _ rfl (.const (.slice none 0 0)) (.tmp 57) _ rfl w.heap.size 5 i0 _ 1 1 Try.underlying22 hi0 hz0 hz1 hz2 rfl (by omega) (.slice none 0 0) 0 [] rfl (World.ownsRow_nil _ _ _ _) w.heap.size _ m c _ rfl Hpre.out (U8s_one _) (by unfold maxLen; omega) (by omega) (Nat.le_refl _) ?_; intro A2 c2 w2 hown2 _ _ hb2; simp only [Nat.zero_add, List.nil_append] at hown2))
            go_ret2
            refine ⟨A2, c2, ?_, ?_, hb2⟩
            · simp [HT.out]
            · show World.ownsRow _ _ _ _ (Value.slice A2 ys.length c2) ys.length _
              rw [HT.out]; exact hown2
          · rw [HN.out (fun h => e3 h.2.2.2)]
            clear HY HN
            have t0 : (x0 != s % 256) = false := by simp [e0]
            have t1 : (x1 != s / 256 % 256) = false := by simp [e1]
            have t2 : (x2 != s / 65536 % 256) = false := by simp [e2]
            have t3 : (x3 != s / 16777216 % 256) = true := by simp [e3]
            clear e0 e1 e2 e3
            go_enter Try.func20, Try.ntmps20
            go_wp2_with (first
              | (refine wpList_slice_rd rfl 22 (.tmp 11) none (some (.tmp 12)) rfl 5 i0 1 Try.underlying22 hi0 hz1 w.heap.size _ (m + 4) c _ rfl Hr.out hnc .i64 .i64 0 m (.inl ⟨rfl, rfl⟩) (.inr rfl) (Nat.zero_le _) (by omega) ?_; intro A1 hA1 hA1'; obtain rfl := hA1' rfl; simp only [Nat.sub_zero])
              | (go_at_call 12; refine HS.out.mono ?_; rintro e w' ⟨rfl, rfl⟩))
            go_ret2
            exact OpenPost.nil w 19
        · rw [HN.out (fun h => e2 h.2.2.1)]
          clear HY HN
          have t0 : (x0 != s % 256) = false := by simp [e0]
          have t1 : (x1 != s / 256 % 256) = false := by simp [e1]
          have t2 : (x2 != s / 65536 % 256) = true := by simp [e2]
          clear e0 e1 e2
          go_enter Try.func20, Try.ntmps20
          go_wp2_with (first
            | (refine wpList_slice_rd rfl 22 (.tmp 11) none (some (.tmp 12)) rfl 5 i0 1 Try.underlying22 hi0 hz1 w.heap.size _ (m + 4) c _ rfl Hr.out hnc .i64 .i64 0 m (.inl ⟨rfl, rfl⟩) (.inr rfl) (Nat.zero_le _) (by omega) ?_; intro A1 hA1 hA1'; obtain rfl := hA1' rfl; simp only [Nat.sub_zero])
            | (go_at_call 12; refine HS.out.mono ?_; rintro e w' ⟨rfl, rfl⟩))
          go_ret2
          exact OpenPost.nil w 19
      · rw [HN.out (fun h => e1 h.2.1)]
        clear HY HN
        have t0 : (x0 != s % 256) = false := by simp [e0]
        have t1 : (x1 != s / 256 % 256) = true := by simp [e1]
        clear e0 e1
        go_enter Try.func20, Try.ntmps20
        go_wp2_with (first
          | (refine wpList_slice_rd rfl 22 (.tmp 11) none (some (.tmp 12)) rfl 5 i0 1 Try.underlying22 hi0 hz1 w.heap.size _ (m + 4) c _ rfl Hr.out hnc .i64 .i64 0 m (.inl ⟨rfl, rfl⟩) (.inr rfl) (Nat.zero_le _) (by omega) ?_; intro A1 hA1 hA1'; obtain rfl := hA1' rfl; simp only [Nat.sub_zero])
          | (go_at_call 12; refine HS.out.mono ?_; rintro e w' ⟨rfl, rfl⟩))
        go_ret2
        exact OpenPost.nil w 19
    · rw [HN.out (fun h => e0 h.1)]
      clear HY HN
      have t0 : (x0 != s % 256) = true := by simp [e0]
      clear e0
      go_enter Try.func20, Try.ntmps20
      go_wp2_with (first
        | (refine wpList_slice_rd rfl 22 (.tmp 11) none (some (.tmp 12)) rfl 5 i0 1 Try.underlying22 hi0 hz1 w.heap.size _ (m + 4) c _ rfl Hr.out hnc .i64 .i64 0 m (.inl ⟨rfl, rfl⟩) (.inr rfl) (Nat.zero_le _) (by omega) ?_; intro A1 hA1 hA1'; obtain rfl := hA1' rfl; simp only [Nat.sub_zero])
        | (go_at_call 12; refine HS.out.mono ?_; rintro e w' ⟨rfl, rfl⟩))
      go_ret2
      exact OpenPost.nil w 19
end Go.Proofs.Ytleolanjlhbjlaa
