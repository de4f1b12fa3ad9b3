/-
  The walks of the checksum's Flip, of the code and of the reference.
-/
import Derived.Test.YtleolanjlhbjlaaCrcW3
namespace Go.Proofs.Ytleolanjlhbjlaa
open Go.RowKit

def xorBit (l : List UInt8) (j : Nat) : List UInt8 := l.set (j / 8) (l.getD (j / 8) 0 ^^^ UInt8.ofNat (2 ^ (j % 8)))
def patBit (pat : Int) (k : Nat) : Int := pat / 2 ^ k % 2
def flipTo (l : List UInt8) (bit pat : Int) : Nat → Option (List UInt8)
  | 0 => some l
  | k + 1 => (flipTo l bit pat k).bind fun out => if patBit pat k = 0 then some out else if bit + k < 0 ∨ 8 * (l.length : Int) ≤ bit + k then none else some (xorBit out (bit + k).toNat)
def flipF (l : List UInt8) (bit pat : Int) : List UInt8 × Int :=
  if pat = 0 then (l, 0) else if bit < -31 ∨ 16777216 < bit then ([], 2) else match flipTo l bit pat 32 with
    | some out => (out, 0)
    | none => ([], 2)

theorem xorBit_len (l : List UInt8) (j : Nat) : (xorBit l j).length = l.length := by simp [xorBit]
theorem flipTo_len {l : List UInt8} {bit pat : Int} : ∀ {k : Nat} {out : List UInt8}, flipTo l bit pat k = some out → out.length = l.length
  | 0, out, h => by injection h with h; rw [h]
  | k + 1, out, h => by
    unfold flipTo at h
    obtain ⟨o, ho, h2⟩ := Option.bind_eq_some_iff.1 h
    have hl := flipTo_len ho
    split at h2
    · injection h2 with h2; rw [← h2]; exact hl
    · split at h2
      · cases h2
      · injection h2 with h2; rw [← h2, xorBit_len]; exact hl
theorem flipTo_none {l : List UInt8} {bit pat : Int} {k : Nat} (h : flipTo l bit pat k = none) : ∀ m, flipTo l bit pat (k + m) = none
  | 0 => h
  | m + 1 => by show (flipTo l bit pat (k + m)).bind _ = none; rw [flipTo_none h m]; rfl

theorem patBit_range (pat : Int) (k : Nat) : 0 ≤ patBit pat k ∧ patBit pat k < 2 := by unfold patBit; omega
theorem u32_and1 (x : Int) (h0 : 0 ≤ x) (h1 : x < 4294967296) : bits .and .u32 x 1 = x % 2 := by
  rw [u32_and x 1 h0 h1 (by omega) (by omega)]
  rw [show (1 : Int).toNat = 1 from rfl, nat_mask1]
  omega
theorem bits_pat (p : Int) (k : Nat) (h0 : 0 ≤ p) (h1 : p < 4294967296) : bits .and .u32 (p / 2 ^ k) 1 = patBit p k := by
  have hp : (0 : Int) < 2 ^ k := Int.pow_pos (by omega)
  have h2 : 0 ≤ p / 2 ^ k := Int.ediv_nonneg h0 (by omega)
  have h3 := Int.ediv_le_self (2 ^ k) h0
  rw [u32_and1 _ h2 (by omega)]; rfl

theorem pow8 : ∀ p : Nat, p < 8 → (2 : Int) ^ p % 256 = (((2 : Nat) ^ p : Nat) : Int) ∧ (2 : Nat) ^ p < 256
  | 0, _ | 1, _ | 2, _ | 3, _ | 4, _ | 5, _ | 6, _ | 7, _ => by decide
  | n + 8, h => absurd h (by omega)
theorem xorBit_cells (out : List UInt8) (j : Nat) : (U8s out).set (j / 8) (.int .u8 (bits .xor .u8 ((out[j / 8]?.getD 0).toNat : Int) (2 ^ (j % 8) % 256))) = U8s (xorBit out j) := by
  obtain ⟨h1, hp⟩ := pow8 (j % 8) (by omega)
  rw [h1, u8_xor_nat _ _ (out[j / 8]?.getD 0).toNat_lt hp]
  unfold xorBit
  rw [U8s, U8s, List.map_set]
  congr 2
  rw [UInt8.toNat_xor, UInt8.toNat_ofNat', Nat.mod_eq_of_lt hp]
  simp [List.getD]

set_option maxRecDepth 100000 in
set_option maxHeartbeats 1000000 in
theorem flip_any (A : Option Addr) (n c : Nat) (xs : List UInt8) (bit pat : Int) (w : World) (hr : Rd w w.heap.size 1 A n (U8s xs)) (hn : n ≤ 70368744177664)
    (hp0 : 0 ≤ pat) (hp1 : pat < 4294967296) (_hb0 : -9223372036854775808 ≤ bit) (_hb1 : bit ≤ 9223372036854775807) :
    Calls Try.prog 24 #[.slice A n c, .int .i64 bit, .int .u32 pat] w (OpenPost w (flipF xs bit pat)) := by
  obtain ⟨i0, hi0, hz0, hz1, hz2⟩ := info_parts u8info
  have hlen : xs.length = n := by simpa using hr.len
  have Hr := Lib.hid hr
  have HL := Lib.hid hlen
  clear hr hlen
  by_cases hz : pat = 0
  · have HF : Hid (flipF xs bit pat = (xs, 0)) := by show _ = _; unfold flipF; rw [if_pos hz]
    have hzb : (pat == 0) = true := by simp [hz]
    clear hz
    go_enter Try.func24, Try.ntmps24
    go_wp2_with (at_builtin; refine wpList_append_rd _ rfl (.const (.slice none 0 0)) (.tmp 11) _ rfl w.heap.size 5 i0 _ 1 1 Try.underlying22 hi0 hz0 hz1 hz2 rfl (by omega) (.slice none 0 0) 0 [] rfl (World.ownsRow_nil _ _ _ _) w.heap.size A n c (U8s xs) rfl Hr.out (U8s_one _) (by unfold maxLen; omega) (by omega) (Nat.le_refl _) ?_; intro A1 c1 w1 hown1 _ _ hb1; simp only [Nat.zero_add, List.nil_append] at hown1)
    go_ret2
    rw [HF.out]
    refine ⟨A1, c1, ?_, ?_, hb1⟩
    · simp [HL.out]
    · show World.ownsRow _ _ _ _ (Value.slice A1 xs.length c1) xs.length _
      rw [HL.out]; exact hown1
  · have hzb : (pat == 0) = false := by simp [hz]
    by_cases hrg : bit < -31 ∨ 16777216 < bit
    · have HF : Hid (flipF xs bit pat = ([], 2)) := by show _ = _; unfold flipF; rw [if_neg hz, if_pos hrg]
      clear hz
      rcases hrg with hrg | hrg
      all_goals
        go_enter Try.func24, Try.ntmps24
        go_wp2_with (at_builtin; refine wpList_append_rd _ rfl (.const (.slice none 0 0)) (.tmp 11) _ rfl w.heap.size 5 i0 _ 1 1 Try.underlying22 hi0 hz0 hz1 hz2 rfl (by omega) (.slice none 0 0) 0 [] rfl (World.ownsRow_nil _ _ _ _) w.heap.size A n c (U8s xs) rfl Hr.out (U8s_one _) (by unfold maxLen; omega) (by omega) (Nat.le_refl _) ?_; intro A1 c1 w1 hown1 _ _ hb1; simp only [Nat.zero_add, List.nil_append] at hown1)
        go_ret2
        rw [HF.out]
        exact ⟨none, 0, rfl, World.ownsRow_nil _ _ _ _, hb1⟩
    · have HF : Hid (flipF xs bit pat = match flipTo xs bit pat 32 with | some out => (out, 0) | none => ([], 2)) := by show _ = _; unfold flipF; rw [if_neg hz, if_neg hrg]
      have hb3 : -31 ≤ bit := by omega
      have hb4 : bit ≤ 16777216 := by omega
      clear hz hrg _hb0 _hb1
      go_enter Try.func24, Try.ntmps24
      go_wp2_with (at_builtin; refine wpList_append_rd _ rfl (.const (.slice none 0 0)) (.tmp 11) _ rfl w.heap.size 5 i0 _ 1 1 Try.underlying22 hi0 hz0 hz1 hz2 rfl (by omega) (.slice none 0 0) 0 [] rfl (World.ownsRow_nil _ _ _ _) w.heap.size A n c (U8s xs) rfl Hr.out (U8s_one _) (by unfold maxLen; omega) (by omega) (Nat.le_refl _) ?_; intro A1 c1 w1 hown1 _ _ hb1; simp only [Nat.zero_add, List.nil_append] at hown1)
      have Hown1 := Lib.hid hown1
      have Hb1 := Lib.hid hb1
      clear hown1 hb1
      go_loopw [9, 10, 22] (fun _ _ i wr => ∃ (k : Nat) (out : List UInt8), k ≤ 32 ∧ i = .int .i64 k ∧ flipTo xs bit pat k = some out ∧ wr.ownsRow w.heap.size 5 1 (.slice A1 n c1) n (U8s out) ∧ Below w.heap.size w wr) (fun _ _ i _ => 32 - (intOf i).toNat)
      case atStart => exact ⟨0, xs, by omega, rfl, rfl, Hown1.out, Hb1.out⟩
      case round =>
        obtain ⟨k, out, hk, rfl, hft, hown, hbl⟩ := hrel
        have HO := Lib.hid hown
        have HB := Lib.hid hbl
        have HT := Lib.hid hft
        clear hown hbl hft
        by_cases hlt : k < 32
        · have hpb := bits_pat pat k hp0 hp1
          obtain ⟨pb0, pb1⟩ := patBit_range pat k
          by_cases hpz : patBit pat k = 0
          · have hpzb : (patBit pat k == 0) = true := by simp [hpz]
            have HN : Hid (flipTo xs bit pat (k + 1) = some out) := by show (flipTo xs bit pat k).bind _ = _; rw [HT.out, Option.bind_some, if_pos hpz]
            clear hpz
            go_wp2
            go_roundw
            case rel => exact ⟨k + 1, out, by omega, by go_num, HN.out, HO.out, HB.out⟩
            case measure => simp [intOf]; omega
          · have hpzb : (patBit pat k == 0) = false := by simp [hpz]
            by_cases hbad : bit + (k : Int) < 0 ∨ 8 * (n : Int) ≤ bit + (k : Int)
            · have HN : Hid (flipF xs bit pat = ([], 2)) := by
                show _ = _
                rw [HF.out]
                have h1 : flipTo xs bit pat (k + 1) = none := by show (flipTo xs bit pat k).bind _ = _; rw [HT.out, Option.bind_some, if_neg hpz, HL.out, if_pos hbad]
                have h2 := flipTo_none h1 (31 - k)
                rw [show k + 1 + (31 - k) = 32 from by omega] at h2
                rw [h2]
              clear hpz
              rcases hbad with hbad | hbad
              all_goals
                go_wp2
                go_ret2
                rw [HN.out]
                exact ⟨none, 0, rfl, World.ownsRow_nil _ _ _ _, HB.out⟩
            · have hlo : 0 ≤ bit + (k : Int) := by omega
              obtain ⟨j, hj⟩ := Int.eq_ofNat_of_zero_le hlo
              have hj8 : j < 8 * n := by omega
              have HN : Hid (flipTo xs bit pat (k + 1) = some (xorBit out j)) := by
                show (flipTo xs bit pat k).bind _ = _
                rw [HT.out, Option.bind_some, if_neg hpz, HL.out, if_neg hbad, hj]; rfl
              have hol : out.length = n := by rw [flipTo_len HT.out, HL.out]
              obtain ⟨g, cap, hv, hgb, hgl⟩ := HO.out.form (by omega)
              injection hv with hv1 _ hv2
              subst hv1
              subst hv2
              have hj1 : j / 8 < n := by omega
              have hcell : wr.cell? ⟨g, j / 8, none⟩ = some (.int .u8 ((out.getD (j / 8) 0).toNat : Int)) := by
                rw [HO.out.cellAt _ (by omega)]
                simp [U8s, List.getElem?_eq_getElem (show j / 8 < out.length by omega)]
              have hfr : wr.frozen? ⟨g, j / 8, none⟩ = false := HO.out.frozenAt _
              have HB' := HB.out
              clear hpz hbad hol
              go_wp2
              go_region
              go_wp2
              go_roundw
              case rel => 
                refine ⟨k + 1, _, by omega, by go_num, HN.out, ?_, (HB.out.setCell (p := ⟨g, j / 8, none⟩) hgb _).drew⟩
                have hst := (HO.out.stored (j / 8) (.int .u8 (bits .xor .u8 ((out[j / 8]?.getD 0).toNat : Int) (2 ^ (j % 8) % 256)))).1
                rw [xorBit_cells] at hst
                exact hst
              case measure => simp [intOf]; omega
        · obtain rfl : k = 32 := by omega
          have HN : Hid (flipF xs bit pat = (out, 0)) := by show _ = _; rw [HF.out, HT.out]
          have hol : Hid (out.length = n) := by show _ = _; rw [flipTo_len HT.out, HL.out]
          go_wp2
          go_ret2
          rw [HN.out]
          refine ⟨A1, c1, ?_, ?_, HB.out⟩
          · simp [hol.out]
          · show World.ownsRow _ _ _ _ (Value.slice A1 out.length c1) out.length _
            rw [hol.out]; exact HO.out
set_option maxRecDepth 100000 in
set_option maxHeartbeats 1000000 in
theorem rflip_any (A : Option Addr) (n c : Nat) (xs : List UInt8) (bit pat : Int) (w : World) (hr : Rd w w.heap.size 1 A n (U8s xs)) (hn : n ≤ 70368744177664)
    (hp0 : 0 ≤ pat) (hp1 : pat < 4294967296) (_hb0 : -9223372036854775808 ≤ bit) (_hb1 : bit ≤ 9223372036854775807) :
    Calls Try.prog 25 #[.slice A n c, .int .i64 bit, .int .u32 pat] w (OpenPost w (flipF xs bit pat)) := by
  obtain ⟨i0, hi0, hz0, hz1, hz2⟩ := info_parts u8info
  have hlen : xs.length = n := by simpa using hr.len
  have Hr := Lib.hid hr
  have HL := Lib.hid hlen
  clear hr hlen
  by_cases hz : pat = 0
  · have HF : Hid (flipF xs bit pat = (xs, 0)) := by show _ = _; unfold flipF; rw [if_pos hz]
    have hzb : (pat == 0) = true := by simp [hz]
    clear hz
    go_enter Try.func25, Try.ntmps25
    go_wp2_with (at_builtin; refine wpList_append_rd _ rfl (.tmp 11) (.tmp 12) _ rfl w.heap.size 5 i0 _ 1 1 Try.underlying22 hi0 hz0 hz1 hz2 rfl (by omega) (.slice (some ⟨w.heap.size, 0, none⟩) 0 0) 0 [] rfl (World.ownsRow_made _ #[] 0 (Nat.le_refl _) (by unfold maxLen; omega) rfl) w.heap.size A n c (U8s xs) rfl (Hr.out.alloc (Nat.le_refl _) _) (U8s_one _) (by unfold maxLen; omega) (by omega) (by simp) ?_; intro A1 c1 w1 hown1 _ _ hb1; simp only [Nat.zero_add, List.nil_append] at hown1; replace hb1 := ((Below.refl _ _).alloc (Nat.le_refl _) _).trans hb1)
    go_ret2
    rw [HF.out]
    refine ⟨A1, c1, ?_, ?_, hb1⟩
    · simp [HL.out]
    · show World.ownsRow _ _ _ _ (Value.slice A1 xs.length c1) xs.length _
      rw [HL.out]; exact hown1
  · have hzb : (pat == 0) = false := by simp [hz]
    by_cases hrg : bit < -31 ∨ 16777216 < bit
    · have HF : Hid (flipF xs bit pat = ([], 2)) := by show _ = _; unfold flipF; rw [if_neg hz, if_pos hrg]
      clear hz
      rcases hrg with hrg | hrg
      all_goals
        go_enter Try.func25, Try.ntmps25
        go_wp2_with (at_builtin; refine wpList_append_rd _ rfl (.tmp 11) (.tmp 12) _ rfl w.heap.size 5 i0 _ 1 1 Try.underlying22 hi0 hz0 hz1 hz2 rfl (by omega) (.slice (some ⟨w.heap.size, 0, none⟩) 0 0) 0 [] rfl (World.ownsRow_made _ #[] 0 (Nat.le_refl _) (by unfold maxLen; omega) rfl) w.heap.size A n c (U8s xs) rfl (Hr.out.alloc (Nat.le_refl _) _) (U8s_one _) (by unfold maxLen; omega) (by omega) (by simp) ?_; intro A1 c1 w1 hown1 _ _ hb1; simp only [Nat.zero_add, List.nil_append] at hown1; replace hb1 := ((Below.refl _ _).alloc (Nat.le_refl _) _).trans hb1)
        go_ret2
        rw [HF.out]
        exact ⟨none, 0, rfl, World.ownsRow_nil _ _ _ _, hb1⟩
    · have HF : Hid (flipF xs bit pat = match flipTo xs bit pat 32 with | some out => (out, 0) | none => ([], 2)) := by show _ = _; unfold flipF; rw [if_neg hz, if_neg hrg]
      have hb3 : -31 ≤ bit := by omega
      have hb4 : bit ≤ 16777216 := by omega
      clear hz hrg _hb0 _hb1
      go_enter Try.func25, Try.ntmps25
      go_wp2_with (at_builtin; refine wpList_append_rd _ rfl (.tmp 11) (.tmp 12) _ rfl w.heap.size 5 i0 _ 1 1 Try.underlying22 hi0 hz0 hz1 hz2 rfl (by omega) (.slice (some ⟨w.heap.size, 0, none⟩) 0 0) 0 [] rfl (World.ownsRow_made _ #[] 0 (Nat.le_refl _) (by unfold maxLen; omega) rfl) w.heap.size A n c (U8s xs) rfl (Hr.out.alloc (Nat.le_refl _) _) (U8s_one _) (by unfold maxLen; omega) (by omega) (by simp) ?_; intro A1 c1 w1 hown1 _ _ hb1; simp only [Nat.zero_add, List.nil_append] at hown1; replace hb1 := ((Below.refl _ _).alloc (Nat.le_refl _) _).trans hb1)
      have Hown1 := Lib.hid hown1
      have Hb1 := Lib.hid hb1
      clear hown1 hb1
      go_loopw [9, 10, 23] (fun _ _ i wr => ∃ (k : Nat) (out : List UInt8), k ≤ 32 ∧ i = .int .i64 k ∧ flipTo xs bit pat k = some out ∧ wr.ownsRow w.heap.size 5 1 (.slice A1 n c1) n (U8s out) ∧ Below w.heap.size w wr) (fun _ _ i _ => 32 - (intOf i).toNat)
      case atStart => exact ⟨0, xs, by omega, rfl, rfl, Hown1.out, Hb1.out⟩
      case round =>
        obtain ⟨k, out, hk, rfl, hft, hown, hbl⟩ := hrel
        have HO := Lib.hid hown
        have HB := Lib.hid hbl
        have HT := Lib.hid hft
        clear hown hbl hft
        by_cases hlt : k < 32
        · have hpb := bits_pat pat k hp0 hp1
          obtain ⟨pb0, pb1⟩ := patBit_range pat k
          by_cases hpz : patBit pat k = 0
          · have hpzb : (patBit pat k == 0) = true := by simp [hpz]
            have HN : Hid (flipTo xs bit pat (k + 1) = some out) := by show (flipTo xs bit pat k).bind _ = _; rw [HT.out, Option.bind_some, if_pos hpz]
            clear hpz
            go_wp2
            go_roundw
            case rel => exact ⟨k + 1, out, by omega, by go_num, HN.out, HO.out, HB.out⟩
            case measure => simp [intOf]; omega
          · have hpzb : (patBit pat k == 0) = false := by simp [hpz]
            by_cases hbad : bit + (k : Int) < 0 ∨ 8 * (n : Int) ≤ bit + (k : Int)
            · have HN : Hid (flipF xs bit pat = ([], 2)) := by
                show _ = _
                rw [HF.out]
                have h1 : flipTo xs bit pat (k + 1) = none := by show (flipTo xs bit pat k).bind _ = _; rw [HT.out, Option.bind_some, if_neg hpz, HL.out, if_pos hbad]
                have h2 := flipTo_none h1 (31 - k)
                rw [show k + 1 + (31 - k) = 32 from by omega] at h2
                rw [h2]
              clear hpz
              rcases hbad with hbad | hbad
              all_goals
                go_wp2
                go_ret2
                rw [HN.out]
                exact ⟨none, 0, rfl, World.ownsRow_nil _ _ _ _, HB.out⟩
            · have hlo : 0 ≤ bit + (k : Int) := by omega
              obtain ⟨j, hj⟩ := Int.eq_ofNat_of_zero_le hlo
              have hj8 : j < 8 * n := by omega
              have HN : Hid (flipTo xs bit pat (k + 1) = some (xorBit out j)) := by
                show (flipTo xs bit pat k).bind _ = _
                rw [HT.out, Option.bind_some, if_neg hpz, HL.out, if_neg hbad, hj]; rfl
              have hol : out.length = n := by rw [flipTo_len HT.out, HL.out]
              obtain ⟨g, cap, hv, hgb, hgl⟩ := HO.out.form (by omega)
              injection hv with hv1 _ hv2
              subst hv1
              subst hv2
              have hj1 : j / 8 < n := by omega
              have hcell : wr.cell? ⟨g, j / 8, none⟩ = some (.int .u8 ((out.getD (j / 8) 0).toNat : Int)) := by
                rw [HO.out.cellAt _ (by omega)]
                simp [U8s, List.getElem?_eq_getElem (show j / 8 < out.length by omega)]
              have hfr : wr.frozen? ⟨g, j / 8, none⟩ = false := HO.out.frozenAt _
              have HB' := HB.out
              clear hpz hbad hol
              go_wp2
              go_region
              go_wp2
              go_roundw
              case rel => 
                refine ⟨k + 1, _, by omega, by go_num, HN.out, ?_, (HB.out.setCell (p := ⟨g, j / 8, none⟩) hgb _).drew⟩
                have hst := (HO.out.stored (j / 8) (.int .u8 (bits .xor .u8 ((out[j / 8]?.getD 0).toNat : Int) (2 ^ (j % 8) % 256)))).1
                rw [xorBit_cells] at hst
                exact hst
              case measure => simp [intOf]; omega
        · obtain rfl : k = 32 := by omega
          have HN : Hid (flipF xs bit pat = (out, 0)) := by show _ = _; rw [HF.out, HT.out]
          have hol : Hid (out.length = n) := by show _ = _; rw [flipTo_len HT.out, HL.out]
          go_wp2
          go_ret2
          rw [HN.out]
          refine ⟨A1, c1, ?_, ?_, HB.out⟩
          · simp [hol.out]
          · show World.ownsRow _ _ _ _ (Value.slice A1 out.length c1) out.length _
            rw [hol.out]; exact HO.out
end Go.Proofs.Ytleolanjlhbjlaa
