/-
  The walks of the checksum's text: Text and Parse of the code and of the reference.
-/
import Derived.Test.YtleolanjlhbjlaaCrcW2
namespace Go.Proofs.Ytleolanjlhbjlaa
open Go.RowKit

def hexd (v : Int) : UInt8 := b8 (if v < 10 then 48 + v else 87 + v)
def nib (s : Int) (k : Nat) : Int := s / 2 ^ (28 - 4 * k) % 16
def textF (s : Int) : List UInt8 := (List.range 8).map fun k => hexd (nib s k)
def tArr (s : Int) (k : Nat) : Array Value := ((List.range 8).map fun j => if j < k then Value.int .u8 ((hexd (nib s j)).toNat : Int) else .int .u8 0).toArray

theorem nib_range (s : Int) (k : Nat) : 0 ≤ nib s k ∧ nib s k < 16 := by unfold nib; omega
theorem u32_and15 (x : Int) (h0 : 0 ≤ x) (h1 : x < 4294967296) : bits .and .u32 x 15 = x % 16 := by
  rw [u32_and x 15 h0 h1 (by omega) (by omega)]
  rw [show (15 : Int).toNat = 15 from rfl, nat_mask4]
  omega
theorem div_le (s : Int) (n : Nat) (h0 : 0 ≤ s) (h1 : s < 4294967296) : 0 ≤ s / 2 ^ n ∧ s / 2 ^ n < 4294967296 := by
  have hp : (0 : Int) < 2 ^ n := Int.pow_pos (by omega)
  refine ⟨Int.ediv_nonneg h0 (by omega), ?_⟩
  have := Int.ediv_le_self (2 ^ n) h0
  omega
theorem bits_nib (s : Int) (k : Nat) (h0 : 0 ≤ s) (h1 : s < 4294967296) : bits .and .u32 (s / 2 ^ (28 - 4 * k)) 15 = nib s k := by
  have := div_le s (28 - 4 * k) h0 h1
  rw [u32_and15 _ this.1 this.2]; rfl
def digs : ByteArray := ⟨#[48, 49, 50, 51, 52, 53, 54, 55, 56, 57, 97, 98, 99, 100, 101, 102]⟩
theorem digs_at : ∀ n : Nat, (h : n < 16) → digs[n]'h = hexd (n : Int)
  | 0, _ | 1, _ | 2, _ | 3, _ | 4, _ | 5, _ | 6, _ | 7, _ | 8, _ | 9, _ | 10, _ | 11, _ | 12, _ | 13, _ | 14, _ | 15, _ => rfl
  | n + 16, h => absurd h (by omega)
theorem tArr_set (s : Int) : ∀ k, k < 8 → (tArr s k).setIfInBounds k (.int .u8 ((hexd (nib s k)).toNat : Int)) = tArr s (k + 1)
  | 0, _ | 1, _ | 2, _ | 3, _ | 4, _ | 5, _ | 6, _ | 7, _ => rfl
theorem tArr_at (s : Int) : ∀ k, k < 8 → (tArr s k)[k]? = some (.int .u8 0)
  | 0, _ | 1, _ | 2, _ | 3, _ | 4, _ | 5, _ | 6, _ | 7, _ => rfl
theorem tArr_end (s : Int) : (tArr s 8).toList = U8s (textF s) := rfl

set_option maxHeartbeats 400000 in
theorem text_any (sum : Int) (w : World) (h0 : 0 ≤ sum) (h1 : sum < 4294967296) :
    Calls Try.prog 17 #[.int .u32 sum] w fun e w' => e = .returned (.string ⟨(textF sum).toArray⟩) ∧ Le w w' := by
  have hmk : ∀ W, (Instr.makeSlice 22 (.int .i64 8) (.int .i64 8)).run Try.prog W = .ok (.slice (some ⟨W.heap.size, 0, none⟩) 8 8) (W.alloc (.cells (tArr sum 0) 5)) := fun W => by kernel_rfl
  go_enter Try.func17, Try.ntmps17
  go_wp2
  go_loopw [4, 8] (fun _ i wr => ∃ k : Nat, k ≤ 8 ∧ i = .int .i64 k ∧ Blk wr w.heap.size 5 (tArr sum k) ∧ Le w wr) (fun _ i _ => 8 - (intOf i).toNat)
  case atStart => exact ⟨0, by omega, rfl, Blk.new _ _ _, (Le.refl _).alloc _⟩
  case round =>
    obtain ⟨k, hk, rfl, hblk, hle⟩ := hrel
    by_cases hlt : k < 8
    · have hb := bits_nib sum k h0 h1
      obtain ⟨n0, n1⟩ := nib_range sum k
      have hcell : wr.cell? ⟨w.heap.size, k, none⟩ = some (.int .u8 0) := by rw [hblk.cell]; exact tArr_at sum k hlt
      have hfr : wr.frozen? ⟨w.heap.size, k, none⟩ = false := hblk.frozen k
      have HB := Lib.hid hblk
      have HL := Lib.hid hle
      clear hblk hle
      go_wp2
      go_roundw
      case rel =>
        refine ⟨k + 1, by omega, by go_num, ?_, HL.out.setCell (p := ⟨w.heap.size, k, none⟩) (Nat.le_refl _) _⟩
        have h2 := HB.out.set_ k (.int .u8 ((hexd (nib sum k)).toNat : Int))
        rw [tArr_set sum k hlt] at h2
        have hd := digs_at (nib sum k).toNat (by omega)
        rw [show (((nib sum k).toNat : Nat) : Int) = nib sum k from by omega] at hd
        rw [← hd] at h2
        exact h2
      case measure => simp [intOf]; omega
    · obtain rfl : k = 8 := by omega
      have hrd := hblk.rd wr.heap.size 1 8 hblk.lt (by simp [tArr])
      rw [show (tArr sum 8).toList.take (8 * 1) = U8s (textF sum) from rfl] at hrd
      have HR := Lib.hid hrd
      have HL := Lib.hid hle
      clear hrd hblk hle
      go_wp2_with (refine wpList_bytes_string rfl 22 9 (.tmp 22) rfl 5 Try.underlying22 Try.underlying5 Try.underlying9 wr.heap.size _ 8 8 (textF sum) rfl HR.out ?_)
      go_ret
      exact ⟨rfl, HL.out⟩

def hval (c : Int) : Int := if 48 ≤ c ∧ c ≤ 57 then c - 48 else if 97 ≤ c ∧ c ≤ 102 then c - 87 else -1
def hnum (l : List UInt8) : Int := l.foldl (fun n c => 16 * n + hval c.toNat) 0
def hok (l : List UInt8) : Bool := l.all fun c => decide (0 ≤ hval c.toNat)
def parseF (l : List UInt8) : Int × Int := if l.length = 8 ∧ hok l = true then (hnum l, 0) else (0, 4)
theorem hval_le (c : Int) : hval c ≤ 15 := by unfold hval; split <;> (try split) <;> omega
theorem hnum_snoc (l : List UInt8) (c : UInt8) : hnum (l ++ [c]) = 16 * hnum l + hval c.toNat := by simp [hnum]
theorem hok_snoc (l : List UInt8) (c : UInt8) : hok (l ++ [c]) = (hok l && decide (0 ≤ hval c.toNat)) := by simp [hok]
theorem hnum_range : ∀ (k : Nat) (l : List UInt8), l.length = k → hok l = true → 0 ≤ hnum l ∧ hnum l < 16 ^ k := by
  intro k
  induction k with
  | zero => intro l hl _; obtain rfl := List.eq_nil_of_length_eq_zero hl; simp [hnum]
  | succ k ih =>
    intro l hl hk
    rcases List.eq_nil_or_concat l with rfl | ⟨l', c, rfl⟩
    · simp at hl
    · rw [List.concat_eq_append] at hl hk ⊢
      rw [hok_snoc] at hk
      simp only [Bool.and_eq_true, decide_eq_true_eq] at hk
      rw [hnum_snoc]
      have := ih l' (by simpa using hl) hk.1
      have h2 := hval_le c.toNat
      rw [Int.pow_succ]
      omega
theorem or_low (n v : Int) (hn : 0 ≤ n) (hn2 : n < 268435456) (h0 : 0 ≤ v) (h1 : v < 16) : bits .or .u32 (n * 16) v = 16 * n + v := by
  rw [u32_or (n * 16) v (by omega) (by omega) (by omega) (by omega), nat_join 4 _ _ (by omega) (by omega)]
  omega
theorem take_snoc_bytes (s : ByteArray) (k : Nat) (h : k < s.size) : s.data.toList.take (k + 1) = s.data.toList.take k ++ [s[k]] := by
  rw [List.take_succ_eq_append_getElem (by simpa using h)]; rfl
theorem hnum_take (l : List UInt8) (k : Nat) (h8 : l.length = 8) (hk : k < 8) (hok' : hok (l.take k) = true) : 0 ≤ hnum (l.take k) ∧ hnum (l.take k) < 268435456 := by
  have h := hnum_range k (l.take k) (by simp; omega) hok'
  have : (16 : Int) ^ k ≤ 268435456 := by
    match k, hk with
    | 0, _ | 1, _ | 2, _ | 3, _ | 4, _ | 5, _ | 6, _ | 7, _ => decide
  omega
theorem parseF_bad {l : List UInt8} {k : Nat} {c : UInt8} (_h8 : l.length = 8) (hk : l.take (k + 1) = l.take k ++ [c]) (hc : ¬ 0 ≤ hval c.toNat) : parseF l = (0, 4) := by
  unfold parseF
  rw [if_neg]
  rintro ⟨_, h⟩
  have h2 : hok (l.take (k + 1) ++ l.drop (k + 1)) = true := by rw [List.take_append_drop]; exact h
  rw [hk] at h2
  simp [hok] at h2
  exact hc h2.2.1

set_option maxHeartbeats 400000 in
theorem parse_any (s : ByteArray) (w : World) (hs : s.size ≤ 4611686018427387904) :
    Calls Try.prog 16 #[.string s] w fun e w' => e = .returned (.tuple #[.int .u32 (parseF s.data.toList).1, .int .i64 (parseF s.data.toList).2]) ∧ w = w' := by
  by_cases h8 : s.size = 8
  · have hl8 : s.data.toList.length = 8 := h8
    have H8 := Lib.hid hl8
    clear hl8
    have hs8 : (((s.size : Nat) : Int) != 8) = false := by simp [h8]
    have hlo : 8 ≤ s.size := by omega
    have hhi : s.size ≤ 8 := by omega
    clear h8
    go_enter Try.func16, Try.ntmps16
    go_wp2
    go_loop [4, 5, 6, 12] (fun n _ _ i => ∃ k : Nat, k ≤ 8 ∧ i = .int .i64 k ∧ hok (s.data.toList.take k) = true ∧ n = .int .u32 (hnum (s.data.toList.take k))) (fun _ _ _ i => 8 - (intOf i).toNat)
    case atStart => exact ⟨0, by omega, rfl, rfl, rfl⟩
    case round =>
      obtain ⟨k, hk, rfl, hok', rfl⟩ := hrel
      by_cases hlt : k < 8
      · have hks : k < s.size := by omega
        have hn := hnum_take _ k H8.out hlt hok'
        obtain ⟨hn0, hn1⟩ := hn
        have HT := Lib.hid (take_snoc_bytes s k hks)
        have HN : Hid (hnum (s.data.toList.take (k + 1)) = 16 * hnum (s.data.toList.take k) + hval s[k].toNat) := by show _ = _; rw [HT.out, hnum_snoc]
        have HO : Hid (hok (s.data.toList.take (k + 1)) = decide (0 ≤ hval s[k].toNat)) := by show _ = _; rw [HT.out, hok_snoc, hok', Bool.true_and]
        have HP : Hid (¬ 0 ≤ hval s[k].toNat → parseF s.data.toList = (0, 4)) := fun h => parseF_bad H8.out HT.out h
        clear hok'
        generalize hnum (List.take k s.data.toList) = n at hn0 hn1 HN
        have hc8 : s[k].toNat < 256 := s[k].toNat_lt
        by_cases hd : 48 ≤ s[k].toNat ∧ s[k].toNat ≤ 57
        · obtain ⟨hd1, hd2⟩ := hd
          have HV : Hid (hval s[k].toNat = s[k].toNat - 48) := by show _ = _; unfold hval; rw [if_pos (by omega)]
          go_wp2
          go_round
          case rel => exact ⟨k + 1, by omega, by go_num, by rw [HO.out, HV.out]; simp; omega, by rw [HN.out, HV.out, or_low n _ hn0 hn1 (by omega) (by omega)]⟩
          case measure => simp [intOf]; omega
        · by_cases hl : 97 ≤ s[k].toNat ∧ s[k].toNat ≤ 102
          · obtain ⟨hd1, hd2⟩ := hl
            have HV : Hid (hval s[k].toNat = s[k].toNat - 87) := by show _ = _; unfold hval; rw [if_neg (by omega), if_pos (by omega)]
            clear hd
            go_wp2
            go_round
            case rel => exact ⟨k + 1, by omega, by go_num, by rw [HO.out, HV.out]; simp; omega, by rw [HN.out, HV.out, ← or_low n _ hn0 hn1 (by omega) (by omega)]; congr 2; omega⟩
            case measure => simp [intOf]; omega
          · have HV : Hid (parseF s.data.toList = (0, 4)) := HP.out (by unfold hval; rw [if_neg (by omega), if_neg (by omega)]; omega)
            clear HP HO HN HT
            have hA : ¬ (48 ≤ (s[k].toNat : Int) ∧ (s[k].toNat : Int) ≤ 57) := by omega
            have hB : ¬ (97 ≤ (s[k].toNat : Int) ∧ (s[k].toNat : Int) ≤ 102) := by omega
            clear hd hl
            go_wp2
            all_goals (go_ret2; exact ⟨by rw [HV.out]; rfl, rfl⟩)
      · obtain rfl : k = 8 := by omega
        have HF : Hid (parseF s.data.toList = (hnum (s.data.toList.take 8), 0)) := by
          show _ = _
          have ht : s.data.toList.take 8 = s.data.toList := List.take_of_length_le (by rw [H8.out]; exact Nat.le_refl _)
          unfold parseF
          rw [ht] at hok' ⊢
          rw [if_pos ⟨H8.out, hok'⟩]
        clear hok'
        go_wp2
        go_ret2
        exact ⟨by rw [HF.out]; rfl, rfl⟩
  · have HF : Hid (parseF s.data.toList = (0, 4)) := by
      show _ = _
      unfold parseF
      rw [if_neg (fun h => h8 h.1)]
    have hs8 : (((s.size : Nat) : Int) != 8) = true := by simp; omega
    clear h8
    go_enter Try.func16, Try.ntmps16
    go_wp2
    go_ret2
    exact ⟨by rw [HF.out]; rfl, rfl⟩
end Go.Proofs.Ytleolanjlhbjlaa
