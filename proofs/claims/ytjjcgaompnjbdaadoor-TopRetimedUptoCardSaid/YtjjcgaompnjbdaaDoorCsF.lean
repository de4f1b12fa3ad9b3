/-
  Plain: the repertoire, and what the functions of one character answer.
-/
import Derived.Test.YtjjcgaompnjbdaaDoorDw
import Derived.KernelRfl
namespace Go.Gh
set_option linter.unusedSimpArgs false
set_option linter.unusedVariables false
set_option maxHeartbeats 4000000
set_option maxRecDepth 100000

def allS : ByteArray := ⟨#[32, 33, 34, 35, 36, 37, 38, 39, 40, 41, 42, 43, 44, 45, 46, 47, 48, 49, 50, 51, 52, 53, 54, 55, 56, 57, 58, 59, 60, 61, 62, 63, 64, 65, 66, 67, 68, 69, 70, 71, 72, 73, 74, 75, 76, 77, 78, 79, 80, 81, 82, 83, 84, 85, 86, 87, 88, 89, 90, 91, 92, 93, 94, 95, 96, 97, 98, 99, 100, 101, 102, 103, 104, 105, 106, 107, 108, 109, 110, 111, 112, 113, 114, 115, 116, 117, 118, 119, 120, 121, 122, 123, 124, 125, 126, 194, 161, 194, 162, 194, 163, 194, 164, 194, 165, 194, 166, 194, 167, 194, 169, 194, 171, 194, 174, 194, 176, 194, 183, 194, 187, 194, 189, 194, 191, 195, 128, 195, 129, 195, 130, 195, 131, 195, 132, 195, 133, 195, 134, 195, 135, 195, 136, 195, 137, 195, 138, 195, 139, 195, 140, 195, 141, 195, 142, 195, 143, 195, 145, 195, 146, 195, 147, 195, 148, 195, 149, 195, 150, 195, 152, 195, 153, 195, 154, 195, 155, 195, 156, 195, 159, 195, 160, 195, 161, 195, 162, 195, 163, 195, 164, 195, 165, 195, 166, 195, 167, 195, 168, 195, 169, 195, 170, 195, 171, 195, 172, 195, 173, 195, 174, 195, 175, 195, 177, 195, 178, 195, 179, 195, 180, 195, 181, 195, 182, 195, 184, 195, 185, 195, 186, 195, 187, 195, 188, 197, 146, 197, 147, 226, 128, 148, 226, 128, 152, 226, 128, 153, 226, 128, 156, 226, 128, 157, 226, 128, 162, 226, 128, 166, 226, 132, 162, 226, 153, 170]⟩
def basesS : ByteArray := ⟨#[33, 99, 76, 36, 89, 124, 83, 67, 34, 82, 111, 46, 34, 50, 63, 65, 65, 65, 65, 65, 65, 65, 67, 69, 69, 69, 69, 73, 73, 73, 73, 78, 79, 79, 79, 79, 79, 79, 85, 85, 85, 85, 115, 97, 97, 97, 97, 97, 97, 97, 99, 101, 101, 101, 101, 105, 105, 105, 105, 110, 111, 111, 111, 111, 111, 111, 117, 117, 117, 117, 79, 111, 45, 39, 39, 34, 34, 46, 46, 84, 35]⟩
def marksS : ByteArray := ⟨#[33, 34, 39, 40, 41, 44, 45, 46, 47, 58, 59, 63, 91, 93, 194, 161, 194, 171, 194, 187, 194, 191, 226, 128, 148, 226, 128, 152, 226, 128, 153, 226, 128, 156, 226, 128, 157, 226, 128, 166]⟩
def letS : ByteArray := ⟨#[195, 128, 195, 129, 195, 130, 195, 131, 195, 132, 195, 133, 195, 134, 195, 135, 195, 136, 195, 137, 195, 138, 195, 139, 195, 140, 195, 141, 195, 142, 195, 143, 195, 145, 195, 146, 195, 147, 195, 148, 195, 149, 195, 150, 195, 152, 195, 153, 195, 154, 195, 155, 195, 156, 195, 159, 195, 160, 195, 161, 195, 162, 195, 163, 195, 164, 195, 165, 195, 166, 195, 167, 195, 168, 195, 169, 195, 170, 195, 171, 195, 172, 195, 173, 195, 174, 195, 175, 195, 177, 195, 178, 195, 179, 195, 180, 195, 181, 195, 182, 195, 184, 195, 185, 195, 186, 195, 187, 195, 188, 197, 146, 197, 147]⟩
def upS : ByteArray := ⟨#[195, 160, 195, 161, 195, 162, 195, 163, 195, 164, 195, 165, 195, 166, 195, 167, 195, 168, 195, 169, 195, 170, 195, 171, 195, 172, 195, 173, 195, 174, 195, 175, 195, 177, 195, 178, 195, 179, 195, 180, 195, 181, 195, 182, 195, 184, 195, 185, 195, 186, 195, 187, 195, 188]⟩
def lowS : ByteArray := ⟨#[195, 128, 195, 129, 195, 130, 195, 131, 195, 132, 195, 133, 195, 134, 195, 135, 195, 136, 195, 137, 195, 138, 195, 139, 195, 140, 195, 141, 195, 142, 195, 143, 195, 145, 195, 146, 195, 147, 195, 148, 195, 149, 195, 150, 195, 152, 195, 153, 195, 154, 195, 155, 195, 156]⟩
def tailS : ByteArray := ⟨#[194, 161, 194, 162, 194, 163, 194, 164, 194, 165, 194, 166, 194, 167, 194, 169, 194, 171, 194, 174, 194, 176, 194, 183, 194, 187, 194, 189, 194, 191, 195, 128, 195, 129, 195, 130, 195, 131, 195, 132, 195, 133, 195, 134, 195, 135, 195, 136, 195, 137, 195, 138, 195, 139, 195, 140, 195, 141, 195, 142, 195, 143, 195, 145, 195, 146, 195, 147, 195, 148, 195, 149, 195, 150, 195, 152, 195, 153, 195, 154, 195, 155, 195, 156, 195, 159, 195, 160, 195, 161, 195, 162, 195, 163, 195, 164, 195, 165, 195, 166, 195, 167, 195, 168, 195, 169, 195, 170, 195, 171, 195, 172, 195, 173, 195, 174, 195, 175, 195, 177, 195, 178, 195, 179, 195, 180, 195, 181, 195, 182, 195, 184, 195, 185, 195, 186, 195, 187, 195, 188, 197, 146, 197, 147, 226, 128, 148, 226, 128, 152, 226, 128, 153, 226, 128, 156, 226, 128, 157, 226, 128, 162, 226, 128, 166, 226, 132, 162, 226, 153, 170]⟩
def REP : List Nat := [32, 33, 34, 35, 36, 37, 38, 39, 40, 41, 42, 43, 44, 45, 46, 47, 48, 49, 50, 51, 52, 53, 54, 55, 56, 57, 58, 59, 60, 61, 62, 63, 64, 65, 66, 67, 68, 69, 70, 71, 72, 73, 74, 75, 76, 77, 78, 79, 80, 81, 82, 83, 84, 85, 86, 87, 88, 89, 90, 91, 92, 93, 94, 95, 96, 97, 98, 99, 100, 101, 102, 103, 104, 105, 106, 107, 108, 109, 110, 111, 112, 113, 114, 115, 116, 117, 118, 119, 120, 121, 122, 123, 124, 125, 126, 161, 162, 163, 164, 165, 166, 167, 169, 171, 174, 176, 183, 187, 189, 191, 192, 193, 194, 195, 196, 197, 198, 199, 200, 201, 202, 203, 204, 205, 206, 207, 209, 210, 211, 212, 213, 214, 216, 217, 218, 219, 220, 223, 224, 225, 226, 227, 228, 229, 230, 231, 232, 233, 234, 235, 236, 237, 238, 239, 241, 242, 243, 244, 245, 246, 248, 249, 250, 251, 252, 338, 339, 8212, 8216, 8217, 8220, 8221, 8226, 8230, 8482, 9834]
def MARKS : List Nat := [33, 34, 39, 40, 41, 44, 45, 46, 47, 58, 59, 63, 91, 93, 161, 171, 187, 191, 8212, 8216, 8217, 8220, 8221, 8230]
def LETS : List Nat := [192, 193, 194, 195, 196, 197, 198, 199, 200, 201, 202, 203, 204, 205, 206, 207, 209, 210, 211, 212, 213, 214, 216, 217, 218, 219, 220, 223, 224, 225, 226, 227, 228, 229, 230, 231, 232, 233, 234, 235, 236, 237, 238, 239, 241, 242, 243, 244, 245, 246, 248, 249, 250, 251, 252, 338, 339]
def UPS : List Nat := [224, 225, 226, 227, 228, 229, 230, 231, 232, 233, 234, 235, 236, 237, 238, 239, 241, 242, 243, 244, 245, 246, 248, 249, 250, 251, 252]
def LOWS : List Nat := [192, 193, 194, 195, 196, 197, 198, 199, 200, 201, 202, 203, 204, 205, 206, 207, 209, 210, 211, 212, 213, 214, 216, 217, 218, 219, 220]
def TAIL : List Nat := [161, 162, 163, 164, 165, 166, 167, 169, 171, 174, 176, 183, 187, 189, 191, 192, 193, 194, 195, 196, 197, 198, 199, 200, 201, 202, 203, 204, 205, 206, 207, 209, 210, 211, 212, 213, 214, 216, 217, 218, 219, 220, 223, 224, 225, 226, 227, 228, 229, 230, 231, 232, 233, 234, 235, 236, 237, 238, 239, 241, 242, 243, 244, 245, 246, 248, 249, 250, 251, 252, 338, 339, 8212, 8216, 8217, 8220, 8221, 8226, 8230, 8482, 9834]
def BASES : List Nat := [33, 99, 76, 36, 89, 124, 83, 67, 34, 82, 111, 46, 34, 50, 63, 65, 65, 65, 65, 65, 65, 65, 67, 69, 69, 69, 69, 73, 73, 73, 73, 78, 79, 79, 79, 79, 79, 79, 85, 85, 85, 85, 115, 97, 97, 97, 97, 97, 97, 97, 99, 101, 101, 101, 101, 105, 105, 105, 105, 110, 111, 111, 111, 111, 111, 111, 117, 117, 117, 117, 79, 111, 45, 39, 39, 34, 34, 46, 46, 84, 35]
theorem rns_all : rns allS = REP := by kernel_rfl
theorem rns_marks : rns marksS = MARKS := by kernel_rfl
theorem rns_let : rns letS = LETS := by kernel_rfl
theorem rns_up : rns upS = UPS := by kernel_rfl
theorem rns_low : rns lowS = LOWS := by kernel_rfl
theorem rns_tail : rns tailS = TAIL := by kernel_rfl
theorem bases_at : basesS.data.toList.map (·.toNat) = BASES := by kernel_rfl
/-- the first place of a number -/
def fnd : List Nat → Int → Option Nat
  | [], _ => none
  | x :: l, r => if (x : Int) = r then some 0 else (fnd l r).map (· + 1)
def fndI (l : List Nat) (r : Int) : Int := match fnd l r with
  | some n => n
  | none => -1
theorem fndI_nil (r : Int) : fndI [] r = -1 := rfl
theorem fndI_yes (x : Nat) (l : List Nat) {r : Int} (h : (x : Int) = r) : fndI (x :: l) r = 0 := by simp [fndI, fnd, h]
theorem fnd_lt : ∀ (l : List Nat) (r : Int) (n : Nat), fnd l r = some n → n < l.length ∧ (l[n]! : Int) = r
  | [], _, _, h => by cases h
  | x :: l, r, n, h => by
    simp only [fnd] at h
    split at h
    · cases h; rename_i hx; exact ⟨by simp, by simpa using hx⟩
    · simp only [Option.map_eq_some_iff] at h
      obtain ⟨m, hm, rfl⟩ := h
      obtain ⟨h1, h2⟩ := fnd_lt l r m hm
      exact ⟨by simp; omega, by simpa using h2⟩
theorem fnd_none : ∀ (l : List Nat) (r : Int), fnd l r = none ↔ ∀ x ∈ l, (x : Int) ≠ r
  | [], _ => by simp [fnd]
  | x :: l, r => by
    simp only [fnd]
    split
    · rename_i hx; simp [hx]
    · rename_i hx
      simp only [Option.map_eq_none_iff, fnd_none l r, List.mem_cons, forall_eq_or_imp]
      exact ⟨fun h => ⟨hx, h⟩, fun h => h.2⟩
def idxN (r : Int) : Int := if 32 ≤ r ∧ r ≤ 126 then r - 32 else fndI REP r
def inB (l : List Nat) (r : Int) : Bool := (fnd l r).isSome
def charN (i : Int) : Int := if 0 ≤ i ∧ i < 176 then (REP[i.toNat]! : Nat) else 0
def clsA (r : Int) : Int :=
  if idxN r < 0 then 0 else if r = 32 then 1 else if 48 ≤ r ∧ r ≤ 57 then 2
  else if (65 ≤ r ∧ r ≤ 90) ∨ (97 ≤ r ∧ r ≤ 122) ∨ (192 ≤ r ∧ r ≤ 255) ∨ r = 338 ∨ r = 339 then 3
  else if inB MARKS r = true then 4 else if r = 9834 then 6 else 5
def clsB (r : Int) : Int :=
  if idxN r < 0 then 0 else if r = 32 then 1 else if 48 ≤ r ∧ r ≤ 57 then 2
  else if (65 ≤ r ∧ r ≤ 90) ∨ (97 ≤ r ∧ r ≤ 122) ∨ inB LETS r = true then 3
  else if inB MARKS r = true then 4 else if r = 9834 then 6 else 5
def uppA (r : Int) : Int := if idxN r < 0 then 0 else if (97 ≤ r ∧ r ≤ 122) ∨ (224 ≤ r ∧ r ≤ 255) then r - 32 else if r = 339 then 338 else r
def uppB (r : Int) : Int := if idxN r < 0 then 0 else if (97 ≤ r ∧ r ≤ 122) ∨ inB UPS r = true then r - 32 else if r = 339 then 338 else r
def lowA (r : Int) : Int := if idxN r < 0 then 0 else if (65 ≤ r ∧ r ≤ 90) ∨ (192 ≤ r ∧ r < 223) then r + 32 else if r = 338 then 339 else r
def lowB (r : Int) : Int := if idxN r < 0 then 0 else if (65 ≤ r ∧ r ≤ 90) ∨ inB LOWS r = true then r + 32 else if r = 338 then 339 else r
def basA (r : Int) : Int := if idxN r < 0 then 0 else if idxN r < 95 then r else (BASES[(idxN r - 95).toNat]! : Nat)
def basB (r : Int) : Int := if idxN r < 0 then 0 else if r < 128 then r else match fnd TAIL r with
  | some k => (BASES[k]! : Nat)
  | none => r
theorem rep_len : REP.length = 176 := rfl
theorem idx_fnd : (REP.all fun x => idxN x == fndI REP x) = true := by kernel_rfl
/-- the character's place, if it has one -/
theorem idx_cases (r : Int) : (idxN r = -1 ∧ (∀ x ∈ REP, (x : Int) ≠ r)) ∨ (∃ n : Nat, n < 176 ∧ idxN r = n ∧ ((REP[n]! : Nat) : Int) = r) := by
  by_cases h : ∀ x ∈ REP, (x : Int) ≠ r
  · left
    refine ⟨?_, h⟩
    have h1 : ¬ (32 ≤ r ∧ r ≤ 126) := by
      rintro ⟨h2, h3⟩
      have : ∀ n : Nat, 32 ≤ n → n ≤ 126 → n ∈ REP := by
        intro n a b
        have : ∀ k : Fin 127, 32 ≤ k.val → k.val ∈ REP := by decide +kernel
        exact this ⟨n, by omega⟩ a
      exact h r.toNat (this _ (by omega) (by omega)) (by omega)
    unfold idxN
    rw [if_neg h1, fndI, (fnd_none REP r).2 h]
  · right
    simp only [Classical.not_forall, Decidable.not_not] at h
    obtain ⟨x, hx, rfl⟩ := h
    have h1 := List.all_eq_true.1 idx_fnd x hx
    simp only [beq_iff_eq] at h1
    cases hf : fnd REP (x : Int) with
    | none => exact absurd rfl ((fnd_none REP _).1 hf x hx)
    | some n =>
      obtain ⟨k1, k2⟩ := fnd_lt _ _ _ hf
      exact ⟨n, by rw [rep_len] at k1; exact k1, by rw [h1, fndI, hf], k2⟩
theorem idx_neg {r : Int} (h : idxN r < 0) : ∀ x ∈ REP, (x : Int) ≠ r := by
  rcases idx_cases r with ⟨_, k⟩ | ⟨n, _, e, _⟩
  · exact k
  · omega
theorem idx_pos {r : Int} (h : ¬ idxN r < 0) : ∃ n : Nat, n < 176 ∧ idxN r = n ∧ ((REP[n]! : Nat) : Int) = r := by
  rcases idx_cases r with ⟨e, _⟩ | k
  · omega
  · exact k
theorem idx_mem {r : Int} (h : ¬ idxN r < 0) : ∃ x ∈ REP, (x : Int) = r := by
  obtain ⟨n, h1, _, h2⟩ := idx_pos h
  exact ⟨REP[n]!, by rw [getElem!_pos REP n (by rw [rep_len]; exact h1)]; exact List.getElem_mem _, h2⟩
theorem tables : (REP.all fun x => clsA x == clsB x && uppA x == uppB x && lowA x == lowB x && basA x == basB x) = true := by kernel_rfl
/-- the two agree at any number -/
theorem same_all (r : Int) : clsA r = clsB r ∧ uppA r = uppB r ∧ lowA r = lowB r ∧ basA r = basB r := by
  by_cases h : idxN r < 0
  · simp only [clsA, clsB, uppA, uppB, lowA, lowB, basA, basB, if_pos h, and_self]
  · obtain ⟨x, hx, rfl⟩ := idx_mem h
    have := List.all_eq_true.1 tables x hx
    simpa [and_assoc] using this
end Go.Gh
