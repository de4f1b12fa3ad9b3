/-
  Plain functions: what the checksum's functions compute, on lists of bytes. No program in sight.
-/
import Derived.Test.YtleolanjlhbjlaaLib
namespace Go.Proofs.Ytleolanjlhbjlaa
open Go.RowKit

def inv32 (r : Int) : Int := bits .xor .u32 IntKind.u32.max r
def step1 (r : Int) : Int := if bits .and .u32 r 1 = 1 then bits .xor .u32 (r / 2) 2197175160 else r / 2
def crcByte (r : Int) (b : UInt8) : Int := Nat.repeat step1 8 (bits .xor .u32 r b.toNat)
def crcReg (r : Int) (xs : List UInt8) : Int := xs.foldl crcByte r
def crcUpd (s : Int) (xs : List UInt8) : Int := inv32 (crcReg (inv32 s) xs)
def crcSum (xs : List UInt8) : Int := crcUpd 0 xs

def b8 (n : Int) : UInt8 := UInt8.ofNat n.toNat
theorem b8_toNat {n : Int} (h0 : 0 ≤ n) (h1 : n < 256) : ((b8 n).toNat : Int) = n := by
  unfold b8; rw [UInt8.toNat_ofNat']; omega
def le4 (s : Int) : List UInt8 := [b8 (s % 256), b8 (s / 256 % 256), b8 (s / 65536 % 256), b8 (s / 16777216 % 256)]
def sealF (xs : List UInt8) : List UInt8 := xs ++ le4 (crcSum xs)
/-- what Open returns: the bytes and the error's number. -/
def openF (xs : List UInt8) : List UInt8 × Int :=
  if xs.length < 4 then ([], 4) else if xs.drop (xs.length - 4) = le4 (crcSum (xs.take (xs.length - 4))) then (xs.take (xs.length - 4), 0) else ([], 19)

theorem bits_u32_range (op : BinOp) (a b : Int) (h : op = .and ∨ op = .or ∨ op = .xor) : 0 ≤ bits op .u32 a b ∧ bits op .u32 a b < 4294967296 := by
  rcases h with rfl | rfl | rfl <;> (unfold bits; simp only [IntKind.wrap_u32']; omega)
theorem inv32_range (r : Int) : 0 ≤ inv32 r ∧ inv32 r < 4294967296 := bits_u32_range _ _ _ (by simp)
theorem crcUpd_range (s : Int) (xs : List UInt8) : 0 ≤ crcUpd s xs ∧ crcUpd s xs < 4294967296 := inv32_range _
theorem crcSum_range (xs : List UInt8) : 0 ≤ crcSum xs ∧ crcSum xs < 4294967296 := inv32_range _
theorem le4_cells (s : Int) (_h : 0 ≤ s) : U8s (le4 s) = [.int .u8 (s % 256), .int .u8 (s / 256 % 256), .int .u8 (s / 65536 % 256), .int .u8 (s / 16777216 % 256)] := by
  unfold le4
  simp only [List.map_cons, List.map_nil]
  rw [b8_toNat (by omega) (by omega), b8_toNat (by omega) (by omega), b8_toNat (by omega) (by omega), b8_toNat (by omega) (by omega)]
theorem rd_le4 (w1 : World) (e : TypeId) (s : Int) (h : 0 ≤ s) :
    Rd (w1.alloc (.cells #[.int .u8 (s % 256), .int .u8 (s / 256 % 256), .int .u8 (s / 65536 % 256), .int .u8 (s / 16777216 % 256)] e)) (w1.heap.size + 1) 1 (some ⟨w1.heap.size, 0, none⟩) 4 (U8s (le4 s)) := by
  rw [le4_cells s h]
  exact (Blk.new w1 e _).rd _ 1 4 (by omega) (by simp)
theorem drop4 (xs : List UInt8) (m : Nat) (h : xs.length = m + 4) : xs.drop m = [xs[m], xs[m + 1], xs[m + 2], xs[m + 3]] := by
  rw [List.drop_eq_getElem_cons (by omega), List.drop_eq_getElem_cons (by omega), List.drop_eq_getElem_cons (by omega), List.drop_eq_getElem_cons (by omega), List.drop_of_length_le (by omega)]
theorem b8_eq {x : UInt8} {n : Int} (h0 : 0 ≤ n) (h1 : n < 256) : x = b8 n ↔ (x.toNat : Int) = n := by
  constructor
  · rintro rfl; exact b8_toNat h0 h1
  · intro h
    rw [← UInt8.toNat_inj]
    have := b8_toNat h0 h1
    omega
theorem openF_short (xs : List UInt8) (h : xs.length < 4) : openF xs = ([], 4) := by simp [openF, h]
theorem openF_yes (xs : List UInt8) (m : Nat) (h : xs.length = m + 4) (_hs : 0 ≤ crcSum (xs.take m)) (h0 : (xs[m].toNat : Int) = crcSum (xs.take m) % 256) (h1 : (xs[m + 1].toNat : Int) = crcSum (xs.take m) / 256 % 256)
    (h2 : (xs[m + 2].toNat : Int) = crcSum (xs.take m) / 65536 % 256) (h3 : (xs[m + 3].toNat : Int) = crcSum (xs.take m) / 16777216 % 256) : openF xs = (xs.take m, 0) := by
  have e : xs.length - 4 = m := by omega
  unfold openF
  rw [if_neg (by omega), e, if_pos]
  rw [drop4 xs m h]
  unfold le4
  rw [(b8_eq (by omega) (by omega)).2 h0, (b8_eq (by omega) (by omega)).2 h1, (b8_eq (by omega) (by omega)).2 h2, (b8_eq (by omega) (by omega)).2 h3]
theorem openF_no (xs : List UInt8) (m : Nat) (h : xs.length = m + 4) (_hs : 0 ≤ crcSum (xs.take m)) (hn : ¬ ((xs[m].toNat : Int) = crcSum (xs.take m) % 256 ∧ (xs[m + 1].toNat : Int) = crcSum (xs.take m) / 256 % 256 ∧
    (xs[m + 2].toNat : Int) = crcSum (xs.take m) / 65536 % 256 ∧ (xs[m + 3].toNat : Int) = crcSum (xs.take m) / 16777216 % 256)) : openF xs = ([], 19) := by
  have e : xs.length - 4 = m := by omega
  unfold openF
  rw [if_neg (by omega), e, if_neg]
  rw [drop4 xs m h]
  unfold le4
  intro he
  simp only [List.cons.injEq, and_true] at he
  obtain ⟨h0, h1, h2, h3⟩ := he
  exact hn ⟨(b8_eq (by omega) (by omega)).1 h0, (b8_eq (by omega) (by omega)).1 h1, (b8_eq (by omega) (by omega)).1 h2, (b8_eq (by omega) (by omega)).1 h3⟩
theorem openF_seal (xs : List UInt8) (m : Nat) (h : xs.length = m + 4) : openF xs = if (sealF (xs.take m) != xs) = true then ([], 19) else (xs.take m, 0) := by
  have e : xs.length - 4 = m := by omega
  unfold openF
  rw [if_neg (by omega), e]
  have hx : xs = xs.take m ++ xs.drop m := (List.take_append_drop m xs).symm
  by_cases hd : xs.drop m = le4 (crcSum (xs.take m))
  · rw [if_pos hd, if_neg]
    rw [bne_iff_ne, Classical.not_not, sealF, ← hd, ← hx]
  · rw [if_neg hd, if_pos]
    rw [bne_iff_ne]
    intro hs
    apply hd
    have h2 : (sealF (xs.take m)).drop m = xs.drop m := by rw [hs]
    rw [sealF, List.drop_append_of_le_length (by simp; omega), List.drop_of_length_le (by simp; omega), List.nil_append] at h2
    exact h2.symm
end Go.Proofs.Ytleolanjlhbjlaa
