/-
  Plain: the tape form's character table; constants printed by mkLtF.py.
-/
import Derived.Test.YtaemdlpikaakcaaDoorCsF
namespace Go.Gh
set_option linter.unusedSimpArgs false
set_option linter.unusedVariables false
set_option maxRecDepth 100000

def schS : ByteArray := ⟨#[194, 161, 194, 162, 194, 163, 194, 164, 194, 165, 194, 166, 194, 167, 194, 169, 226, 128, 152, 226, 128, 156, 194, 171, 194, 174, 226, 128, 148, 226, 128, 162, 226, 128, 166, 194, 176, 226, 132, 162, 194, 183, 226, 128, 153, 226, 128, 157, 194, 187, 194, 189, 194, 191, 226, 153, 170, 195, 134, 195, 152, 197, 146, 195, 166, 195, 184, 197, 147, 195, 159]⟩
def sbyS : ByteArray := ⟨#[161, 162, 163, 164, 165, 166, 167, 168, 169, 170, 171, 172, 173, 174, 175, 176, 180, 183, 185, 186, 187, 189, 191, 213, 225, 233, 234, 241, 249, 250, 251]⟩
def SCH : List Nat := [161, 162, 163, 164, 165, 166, 167, 169, 8216, 8220, 171, 174, 8212, 8226, 8230, 176, 8482, 183, 8217, 8221, 187, 189, 191, 9834, 198, 216, 338, 230, 248, 339, 223]
def SBY : List Nat := [161, 162, 163, 164, 165, 166, 167, 168, 169, 170, 171, 172, 173, 174, 175, 176, 180, 183, 185, 186, 187, 189, 191, 213, 225, 233, 234, 241, 249, 250, 251]
def accS (b : Int) : ByteArray :=
  if b = 193 then ⟨#[195, 128, 195, 136, 195, 140, 195, 146, 195, 153]⟩ else
  if b = 194 then ⟨#[195, 129, 195, 137, 195, 141, 195, 147, 195, 154]⟩ else
  if b = 195 then ⟨#[195, 130, 195, 138, 195, 142, 195, 148, 195, 155]⟩ else
  if b = 196 then ⟨#[195, 131, 195, 145, 195, 149]⟩ else
  if b = 200 then ⟨#[195, 132, 195, 139, 195, 143, 195, 150, 195, 156]⟩ else
  if b = 202 then ⟨#[195, 133]⟩ else
  if b = 203 then ⟨#[195, 135]⟩ else ⟨#[]⟩
def ACC (b : Int) : List Nat :=
  if b = 193 then [192, 200, 204, 210, 217] else
  if b = 194 then [193, 201, 205, 211, 218] else
  if b = 195 then [194, 202, 206, 212, 219] else
  if b = 196 then [195, 209, 213] else
  if b = 200 then [196, 203, 207, 214, 220] else
  if b = 202 then [197] else
  if b = 203 then [199] else []
def COD : List Nat := [161, 162, 163, 164, 165, 166, 167, 168, 169, 170, 171, 172, 173, 174, 175, 176, 180, 183, 185, 186, 187, 189, 191, 213, 225, 233, 234, 241, 249, 250, 251]
def CHR : List Nat := [161, 162, 163, 164, 165, 166, 167, 169, 8216, 8220, 171, 174, 8212, 8226, 8230, 176, 8482, 183, 8217, 8221, 187, 189, 191, 9834, 198, 216, 338, 230, 248, 339, 223]
def MRK : List Nat := [193, 193, 193, 193, 193, 194, 194, 194, 194, 194, 195, 195, 195, 195, 195, 196, 196, 196, 200, 200, 200, 200, 200, 202, 203]
def LTR : List Nat := [65, 69, 73, 79, 85, 65, 69, 73, 79, 85, 65, 69, 73, 79, 85, 65, 78, 79, 65, 69, 73, 79, 85, 65, 67]
def DCH : List Nat := [192, 200, 204, 210, 217, 193, 201, 205, 211, 218, 194, 202, 206, 212, 219, 195, 209, 213, 196, 203, 207, 214, 220, 197, 199]
def ltrS : ByteArray := ⟨#[65, 69, 73, 79, 85, 65, 69, 73, 79, 85, 65, 69, 73, 79, 85, 65, 78, 79, 65, 69, 73, 79, 85, 65, 67]⟩
theorem rns_sch : rns schS = SCH := by kernel_rfl
theorem sby_at : sbyS.data.toList.map (·.toNat) = SBY := by kernel_rfl
theorem ltr_at : ltrS.data.toList.map (·.toNat) = LTR := by kernel_rfl
theorem rns_acc (b : Int) : rns (accS b) = ACC b := by
  unfold accS ACC
  (repeat' split) <;> kernel_rfl
theorem acc_size (b : Int) : (accS b).size ≤ 10 := by
  unfold accS
  (repeat' split) <;> decide
theorem sch_len : SCH.length = 31 := rfl
/-- the diacritic's byte, from one on -/
def dia (r : Int) : Nat → Int → Option Int
  | 0, _ => none
  | k + 1, b => if inB (ACC b) (uppA r) = true then some b else dia r k (b + 1)
/-- the bytes of a character -/
def putA (r : Int) : List Int :=
  if idxN r < 0 then [] else if r < 127 then [r] else match fnd SCH r with
    | some i => [(SBY[i]! : Nat)]
    | none => match dia r 11 193 with
      | some b => [b, (basA r) % 256]
      | none => []
def sngN (c : Int) : Int := if 32 ≤ c ∧ c ≤ 126 then c else match fnd COD c with
  | some i => (CHR[i]! : Nat)
  | none => 0
/-- the first place at which mark and letter stand, k from j on -/
def dblF (m c : Int) : Nat → Nat → Option Nat
  | 0, _ => none
  | k + 1, j => if (MRK[j]! : Int) = m ∧ (LTR[j]! : Int) = c then some j else dblF m c k (j + 1)
def dblN (m l : Int) : Int :=
  if 97 ≤ l ∧ l ≤ 122 then (match dblF m (l - 32) 25 0 with | some j => (DCH[j]! : Int) + 32 | none => 0)
  else (match dblF m l 25 0 with | some j => (DCH[j]! : Int) | none => 0)
def srch1 (r : Int) : Nat → Int → Option Int
  | 0, _ => none
  | k + 1, a => if sngN a = r then some a else srch1 r k (a + 1)
def srchL (r a : Int) : Nat → Int → Option Int
  | 0, _ => none
  | k + 1, b => if dblN a b = r then some b else srchL r a k (b + 1)
def srch2 (r : Int) : Nat → Int → Option (Int × Int)
  | 0, _ => none
  | k + 1, a => match srchL r a 58 65 with
    | some b => some (a, b)
    | none => srch2 r k (a + 1)
def putB (r : Int) : List Int :=
  if idxN r < 0 then [] else match srch1 r 256 0 with
    | some a => [a]
    | none => match srch2 r 11 193 with
      | some (a, b) => [a, b]
      | none => []
theorem put_tab : (REP.all fun x => putA x == putB x) = true := by kernel_rfl
theorem put_same (r : Int) : putA r = putB r := by
  by_cases h : idxN r < 0
  · simp only [putA, putB, if_pos h]
  · obtain ⟨x, hx, rfl⟩ := idx_mem h
    simpa using List.all_eq_true.1 put_tab x hx

def NL (k : IntKind) (l : List Nat) : List Value := l.map fun (x : Nat) => Value.int k (x : Int)
theorem fillCod : fillL (ints .u8 (List.replicate 31 0)) [(0, 1, .int .u8 161), (1, 1, .int .u8 162), (2, 1, .int .u8 163), (3, 1, .int .u8 164), (4, 1, .int .u8 165), (5, 1, .int .u8 166), (6, 1, .int .u8 167), (7, 1, .int .u8 168), (8, 1, .int .u8 169), (9, 1, .int .u8 170), (10, 1, .int .u8 171), (11, 1, .int .u8 172), (12, 1, .int .u8 173), (13, 1, .int .u8 174), (14, 1, .int .u8 175), (15, 1, .int .u8 176), (16, 1, .int .u8 180), (17, 1, .int .u8 183), (18, 1, .int .u8 185), (19, 1, .int .u8 186), (20, 1, .int .u8 187), (21, 1, .int .u8 189), (22, 1, .int .u8 191), (23, 1, .int .u8 213), (24, 1, .int .u8 225), (25, 1, .int .u8 233), (26, 1, .int .u8 234), (27, 1, .int .u8 241), (28, 1, .int .u8 249), (29, 1, .int .u8 250), (30, 1, .int .u8 251)] = some (NL .u8 COD) := by kernel_rfl
theorem fillChr : fillL (ints .i32 (List.replicate 31 0)) [(0, 1, .int .i32 161), (1, 1, .int .i32 162), (2, 1, .int .i32 163), (3, 1, .int .i32 164), (4, 1, .int .i32 165), (5, 1, .int .i32 166), (6, 1, .int .i32 167), (7, 1, .int .i32 169), (8, 1, .int .i32 8216), (9, 1, .int .i32 8220), (10, 1, .int .i32 171), (11, 1, .int .i32 174), (12, 1, .int .i32 8212), (13, 1, .int .i32 8226), (14, 1, .int .i32 8230), (15, 1, .int .i32 176), (16, 1, .int .i32 8482), (17, 1, .int .i32 183), (18, 1, .int .i32 8217), (19, 1, .int .i32 8221), (20, 1, .int .i32 187), (21, 1, .int .i32 189), (22, 1, .int .i32 191), (23, 1, .int .i32 9834), (24, 1, .int .i32 198), (25, 1, .int .i32 216), (26, 1, .int .i32 338), (27, 1, .int .i32 230), (28, 1, .int .i32 248), (29, 1, .int .i32 339), (30, 1, .int .i32 223)] = some (NL .i32 CHR) := by kernel_rfl
theorem fillMrk : fillL (ints .u8 (List.replicate 25 0)) [(0, 1, .int .u8 193), (1, 1, .int .u8 193), (2, 1, .int .u8 193), (3, 1, .int .u8 193), (4, 1, .int .u8 193), (5, 1, .int .u8 194), (6, 1, .int .u8 194), (7, 1, .int .u8 194), (8, 1, .int .u8 194), (9, 1, .int .u8 194), (10, 1, .int .u8 195), (11, 1, .int .u8 195), (12, 1, .int .u8 195), (13, 1, .int .u8 195), (14, 1, .int .u8 195), (15, 1, .int .u8 196), (16, 1, .int .u8 196), (17, 1, .int .u8 196), (18, 1, .int .u8 200), (19, 1, .int .u8 200), (20, 1, .int .u8 200), (21, 1, .int .u8 200), (22, 1, .int .u8 200), (23, 1, .int .u8 202), (24, 1, .int .u8 203)] = some (NL .u8 MRK) := by kernel_rfl
theorem fillDch : fillL (ints .i32 (List.replicate 25 0)) [(0, 1, .int .i32 192), (1, 1, .int .i32 200), (2, 1, .int .i32 204), (3, 1, .int .i32 210), (4, 1, .int .i32 217), (5, 1, .int .i32 193), (6, 1, .int .i32 201), (7, 1, .int .i32 205), (8, 1, .int .i32 211), (9, 1, .int .i32 218), (10, 1, .int .i32 194), (11, 1, .int .i32 202), (12, 1, .int .i32 206), (13, 1, .int .i32 212), (14, 1, .int .i32 219), (15, 1, .int .i32 195), (16, 1, .int .i32 209), (17, 1, .int .i32 213), (18, 1, .int .i32 196), (19, 1, .int .i32 203), (20, 1, .int .i32 207), (21, 1, .int .i32 214), (22, 1, .int .i32 220), (23, 1, .int .i32 197), (24, 1, .int .i32 199)] = some (NL .i32 DCH) := by kernel_rfl
end Go.Gh
