/-
  The checksum's law: its examples hold (awake).
-/
import Derived.Test.YtleolanjlhbjlaaCrcT
import Derived.Test.YtleolanjlhbjlaaReg
import Derived.Lib.SlBytesConst
namespace Go.Proofs.Ytleolanjlhbjlaa
open Go.RowKit

theorem parse_ex : parseF (⟨#[101, 51, 48, 54, 57, 50, 56, 51]⟩ : ByteArray).data.toList = (3808858755, 0) := by decide +kernel
theorem sum_ex : crcSum [49, 50, 51, 52, 53, 54, 55, 56, 57] = 3808858755 := by decide +kernel
theorem text_ex : textF 3808858755 = [101, 51, 48, 54, 57, 50, 56, 51] := by decide +kernel
def exCells : Array Value := #[.int .u8 49, .int .u8 50, .int .u8 51, .int .u8 52, .int .u8 53, .int .u8 54, .int .u8 55, .int .u8 56, .int .u8 57]

set_option maxHeartbeats 400000 in
theorem awake_any (w : World) : Calls Try.prog 10 #[] w fun e w' => e = .returned (.bool true) ∧ Le w w' := by
  have kc := fun (w : World) (C : Array Value) (n c : Nat) => Lib.run_convert_bytes_const (P := Try.prog) w 22 5 C n c Try.underlying22 Try.underlying5
  go_enter Try.func10, Try.ntmps10
  go_wp2_with (first
    | (go_at_call 16; refine (parse_any _ _ (by decide)).mono ?_; rintro e w' ⟨rfl, rfl⟩; rw [parse_ex])
    | (go_at_call 12; refine (sum_any _ 9 9 [49, 50, 51, 52, 53, 54, 55, 56, 57] _ _ (rd_mark w exCells 5 (9, 10) 9 1 rfl) (by omega)).mono ?_; rintro e w1 ⟨rfl, rfl⟩; rw [sum_ex])
    | (go_at_call 17; refine (text_any _ _ (by omega) (by omega)).mono ?_; rintro e w2 ⟨rfl, hl2⟩; rw [text_ex]))
  go_ret
  exact ⟨rfl, ((Le.refl _).alloc _).trans hl2⟩
end Go.Proofs.Ytleolanjlhbjlaa
