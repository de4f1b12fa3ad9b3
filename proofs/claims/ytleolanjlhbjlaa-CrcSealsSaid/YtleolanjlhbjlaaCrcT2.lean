/-
  The walks of the checksum's text, continued: the reference's Text and Parse.
-/
import Derived.Test.YtleolanjlhbjlaaCrcT
namespace Go.Proofs.Ytleolanjlhbjlaa
open Go.RowKit

theorem str_append (x y : List UInt8) : (⟨x.toArray⟩ : ByteArray) ++ ⟨y.toArray⟩ = ⟨(x ++ y).toArray⟩ := by
  apply ByteArray.ext
  rw [ByteArray.data_append]
  simp
theorem digs_cut : ∀ n : Nat, n < 16 → digs.extract n (n + 1) = ⟨[hexd (n : Int)].toArray⟩
  | 0, _ | 1, _ | 2, _ | 3, _ | 4, _ | 5, _ | 6, _ | 7, _ | 8, _ | 9, _ | 10, _ | 11, _ | 12, _ | 13, _ | 14, _ | 15, _ => by kernel_rfl
  | n + 16, h => absurd h (by omega)
theorem textF_snoc (s : Int) (k : Nat) (h : k < 8) : (textF s).take (k + 1) = (textF s).take k ++ [hexd (nib s k)] := by
  rw [List.take_succ_eq_append_getElem (by simpa [textF] using h)]
  simp [textF]

set_option maxHeartbeats 400000 in
theorem rtext_any (sum : Int) (w : World) (h0 : 0 ≤ sum) (h1 : sum < 4294967296) :
    Calls Try.prog 19 #[.int .u32 sum] w fun e w' => e = .returned (.string ⟨(textF sum).toArray⟩) ∧ Le w w' := by
  go_enter Try.func19, Try.ntmps19
  go_wp2
  go_loopw [3, 4] (fun s i wr => ∃ k : Nat, k ≤ 8 ∧ i = .int .i64 (28 - 4 * (k : Int)) ∧ s = .string ⟨((textF sum).take k).toArray⟩ ∧ Le w wr) (fun _ i _ => (intOf i + 4).toNat)
  case atStart => exact ⟨0, by omega, rfl, rfl, Le.refl _⟩
  case round =>
    obtain ⟨k, hk, rfl, rfl, hle⟩ := hrel
    have HL := Lib.hid hle
    clear hle
    by_cases hlt : k < 8
    · have hb := bits_nib sum k h0 h1
      obtain ⟨n0, n1⟩ := nib_range sum k
      have hge : (0 : Int) ≤ 28 - 4 * (k : Int) := by omega
      have hge1 : (28 - 4 * (k : Int)) ≤ 28 := by omega
      go_wp2
      go_quiet (fail)
      go_wp2
      go_roundw
      case rel => 
        refine ⟨k + 1, by omega, by go_num, ?_, HL.out.drewN _⟩
        have hd := digs_cut (nib sum k).toNat (by omega)
        rw [show (((nib sum k).toNat : Nat) : Int) = nib sum k from by omega] at hd
        rw [show (nib sum k + 1).toNat = (nib sum k).toNat + 1 from by omega]
        show Value.string (_ ++ digs.extract _ _) = _
        rw [hd, str_append, textF_snoc sum k hlt]
      case measure => simp [intOf]; omega
    · obtain rfl : k = 8 := by omega
      go_wp2
      go_ret
      exact ⟨rfl, HL.out⟩

def best (v : Int) (j : Nat) : Int := if 0 ≤ v ∧ v < j then v else -1
theorem best_end {v : Int} (h0 : -1 ≤ v) (h1 : v ≤ 15) : best v 16 = v := by unfold best; split <;> omega
theorem best_hit (j : Nat) : best (j : Int) (j + 1) = j := by unfold best; rw [if_pos (by omega)]
theorem best_miss {v : Int} {j : Nat} (h : v ≠ j) : best v (j + 1) = best v j := by unfold best; split <;> split <;> omega
theorem hval_ge (c : Int) : -1 ≤ hval c := by unfold hval; split <;> (try split) <;> omega
theorem hexd_num : ∀ j : Nat, j < 16 → ((hexd (j : Int)).toNat : Int) = if j < 10 then 48 + (j : Int) else 87 + (j : Int)
  | 0, _ | 1, _ | 2, _ | 3, _ | 4, _ | 5, _ | 6, _ | 7, _ | 8, _ | 9, _ | 10, _ | 11, _ | 12, _ | 13, _ | 14, _ | 15, _ => by kernel_rfl
  | n + 16, h => absurd h (by omega)
theorem hval_is (c : Int) (j : Nat) (hj : j < 16) : ((hexd (j : Int)).toNat : Int) = c ↔ hval c = j := by
  rw [hexd_num j hj]
  unfold hval
  split <;> split <;> (try split) <;> omega
theorem digs_num (j : Nat) (hj : j < 16) : (((⟨#[48, 49, 50, 51, 52, 53, 54, 55, 56, 57, 97, 98, 99, 100, 101, 102]⟩ : ByteArray)[j]'hj).toNat : Int) = ((hexd (j : Int)).toNat : Int) := by
  have := digs_at j hj
  exact congrArg (fun x : UInt8 => (x.toNat : Int)) this

set_option maxHeartbeats 800000 in
theorem rparse_any (s : ByteArray) (w : World) (hs : s.size ≤ 4611686018427387904) :
    Calls Try.prog 18 #[.string s] w fun e w' => e = .returned (.tuple #[.int .u32 (parseF s.data.toList).1, .int .i64 (parseF s.data.toList).2]) ∧ Le w w' := by
  by_cases h8 : s.size = 8
  · have hl8 : s.data.toList.length = 8 := h8
    have H8 := Lib.hid hl8
    clear hl8
    have hs8 : (((s.size : Nat) : Int) != 8) = false := by simp [h8]
    have hlo : 8 ≤ s.size := by omega
    have hhi : s.size ≤ 8 := by omega
    clear h8
    go_enter Try.func18, Try.ntmps18
    go_wp2
    go_loopw [4, 5, 6, 7, 13] (fun n _ _ _ i wr => ∃ k : Nat, k ≤ 8 ∧ i = .int .i64 k ∧ hok (s.data.toList.take k) = true ∧ n = .int .u32 (hnum (s.data.toList.take k)) ∧ Le w wr) (fun _ _ _ _ i _ => 8 - (intOf i).toNat)
    case atStart => exact ⟨0, by omega, rfl, rfl, rfl, Le.refl _⟩
    case round =>
      obtain ⟨k, hk, rfl, hok', rfl, hle⟩ := hrel
      by_cases hlt : k < 8
      · have hks : k < s.size := by omega
        have hn := hnum_take _ k H8.out hlt hok'
        obtain ⟨hn0, hn1⟩ := hn
        have HT := Lib.hid (take_snoc_bytes s k hks)
        have HN : Hid (hnum (s.data.toList.take (k + 1)) = 16 * hnum (s.data.toList.take k) + hval s[k].toNat) := by show _ = _; rw [HT.out, hnum_snoc]
        have HO : Hid (hok (s.data.toList.take (k + 1)) = decide (0 ≤ hval s[k].toNat)) := by show _ = _; rw [HT.out, hok_snoc, hok', Bool.true_and]
        have HP : Hid (¬ 0 ≤ hval s[k].toNat → parseF s.data.toList = (0, 4)) := fun h => parseF_bad H8.out HT.out h
        clear hok'
        generalize hnum (List.take k s.data.toList) = n at hn0 hn1 HN
        have hc8 : s[k].toNat < 256 := s[k].toNat_lt
        have HL := Lib.hid hle
        clear hle
        go_wp2
        obtain ⟨wo, rfl⟩ : ∃ wo : World, wo = wr := ⟨_, rfl⟩
        go_loopw [6, 7, 16] (fun v _ i wq => ∃ j : Nat, j ≤ 16 ∧ i = .int .i64 j ∧ v = .int .i64 (best (hval s[k].toNat) j) ∧ Le w wq) (fun _ _ i _ => 16 - (intOf i).toNat)
        case atStart => exact ⟨0, by omega, rfl, by unfold best; rw [if_neg (by omega)], HL.out⟩
        case round =>
          obtain ⟨j, hj, rfl, rfl, hle⟩ := hrel
          have HL := Lib.hid hle
          clear hle
          by_cases hj16 : j < 16
          · have hdg := digs_num j hj16
            have hvi := hval_is s[k].toNat j hj16
            by_cases he : hval s[k].toNat = j
            · have HV := Lib.hid he
              have hh : ((hexd (j : Int)).toNat : Int) = s[k].toNat := hvi.2 he
              have hbe : (((hexd (j : Int)).toNat : Int) == (s[k].toNat : Int)) = true := by rw [hh]; simp
              clear hvi he hh
              go_wp2
              go_quiet (fail)
              go_wp2
              go_roundw
              case rel => exact ⟨j + 1, by omega, by go_num, by rw [HV.out, best_hit], HL.out.drewN _⟩
              case measure => simp [intOf]; omega
            · have HV := Lib.hid he
              have hbe : (((hexd (j : Int)).toNat : Int) == (s[k].toNat : Int)) = false := by rw [beq_eq_false_iff_ne]; exact fun e => he (hvi.1 e)
              clear hvi he
              go_wp2
              go_quiet (fail)
              go_wp2
              go_roundw
              case rel => exact ⟨j + 1, by omega, by go_num, by rw [best_miss HV.out], HL.out.drewN _⟩
              case measure => simp [intOf]; omega
          · obtain rfl : j = 16 := by omega
            have hv0 := hval_ge s[k].toNat
            have hv1 := hval_le s[k].toNat
            rw [best_end hv0 hv1]
            generalize hval s[k].toNat = v at hv0 hv1 HN HO HP
            by_cases hneg : v < 0
            · have HF : Hid (parseF s.data.toList = (0, 4)) := HP.out (by omega)
              clear HP HN HO HT
              go_wp2
              go_ret2
              exact ⟨by rw [HF.out]; rfl, HL.out⟩
            · have hpos : 0 ≤ v := by omega
              have hO : Hid (hok (s.data.toList.take (k + 1)) = true) := by show _ = _; rw [HO.out]; simp [hpos]
              clear HP HO hneg
              go_wp2
              go_roundw
              case rel => exact ⟨k + 1, by omega, by go_num, hO.out, by rw [HN.out], HL.out⟩
              case measure => simp [intOf]; omega
      · obtain rfl : k = 8 := by omega
        have HF : Hid (parseF s.data.toList = (hnum (s.data.toList.take 8), 0)) := by
          show _ = _
          have ht : s.data.toList.take 8 = s.data.toList := List.take_of_length_le (by rw [H8.out]; exact Nat.le_refl _)
          unfold parseF
          rw [ht] at hok' ⊢
          rw [if_pos ⟨H8.out, hok'⟩]
        clear hok'
        have HL := Lib.hid hle
        clear hle
        go_wp2
        go_ret2
        exact ⟨by rw [HF.out]; rfl, HL.out⟩
  · have HF : Hid (parseF s.data.toList = (0, 4)) := by
      show _ = _
      unfold parseF
      rw [if_neg (fun h => h8 h.1)]
    have hs8 : (((s.size : Nat) : Int) != 8) = true := by simp; omega
    clear h8
    go_enter Try.func18, Try.ntmps18
    go_wp2
    go_ret2
    exact ⟨by rw [HF.out]; rfl, Le.refl _⟩
end Go.Proofs.Ytleolanjlhbjlaa
