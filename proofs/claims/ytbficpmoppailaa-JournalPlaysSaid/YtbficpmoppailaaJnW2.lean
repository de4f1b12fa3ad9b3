/-
  The memory, walked: Size, bank, generation, choose; Arm, On, Off, Bytes, Flip, write, NewMemory.
-/
import Derived.Test.YtbficpmoppailaaJnW1
namespace Go.Gh
set_option linter.unusedSimpArgs false
set_option linter.unusedVariables false
set_option maxHeartbeats 4000000
open Go.RowKit
set_option maxRecDepth 4000

def datv (j n gc : Nat) : Value := .slice (some ⟨j, 0, none⟩) n gc
def memCells (j gc : Nat) (m : JM) : List Value := [datv j m.data.length gc, .bool m.armed, .int .i64 m.left, .bool m.off]
/-- a memory that the heap holds: object i, its bytes in object j -/
structure MemAt (H : GHeap) (i j gc : Nat) (m : JM) : Prop where
  obj : H.mine i = some (memCells j gc m, 0)
  dat : H.mine j = some (u8s m.data, 257)
  ne : i ≠ j
  cap : gc = 0 ∨ gc = m.data.length + 1
  big : m.data.length < 70368744177664
  low : 128 ≤ m.data.length
def ptr (i : Nat) : Value := .pointer (some ⟨i, 0, none⟩)
section
variable {H H' : GHeap} {i j gc : Nat} {m : JM}
theorem MemAt.rd (h : MemAt H i j gc m) (o : Nat) : H.rd i o = (memCells j gc m)[o]? := mine_rd h.obj
theorem MemAt.rb (hw : H.wf) (h : MemAt H i j gc m) : RB H (datv j m.data.length gc) m.data := RB.new hw h.dat h.cap
theorem MemAt.isSl (h : MemAt H i j gc m) : IsSl (datv j m.data.length gc) m.data.length := ⟨_, _, rfl, fun _ => ⟨_, _, rfl⟩⟩
theorem MemAt.later (hw : H.wf) (h : MemAt H i j gc m) (hs : Same H H') : MemAt H' i j gc m :=
  ⟨by rw [hs.mine (mine_lt hw h.obj)]; exact h.obj, by rw [hs.mine (mine_lt hw h.dat)]; exact h.dat, h.ne, h.cap, h.big, h.low⟩
theorem half {n : Nat} (h : n < 70368744177664) : ∀ e, gbin .quo e (.int .i64 (n : Int)) (.int .i64 2) = some (.int .i64 ((n / 2 : Nat) : Int)) := fun e => by
  rw [gb_quo (by decide), Int.tdiv_eq_ediv_of_nonneg (by omega), wr_i64 (by omega)]
  rfl
/-- what is read of a memory -/
theorem size_of {i j n gc : Nat} (h : H.rd i 0 = some (datv j n gc)) (hn : n < 70368744177664) :
    ∃ r H', gev G 24 [ptr i] H = some (r, H') ∧ (r = .int .i64 ((n / 2 : Nat) : Int) ∧ H' = H) := by
  refine gev_GW (f := 24) rfl fun Post hPost => ?_
  have hh := half hn
  have hs : glen false (datv j n gc) = some (.int .i64 n) := rfl
  simp only [frameOf, Nat.reduceAdd, ptr]
  repeat' (first | refine zn ?_ | refine zK rfl ?_ | refine zP rfl ?_ | ((first | refine zm ?_ | skip); intro _; intros; simp (disch := first | exact zd | fail) only [↓yS, yT, gresults, gone, ↓reduceIte, Nat.reduceEqDiff, Nat.reduceAdd, Nat.reduceMul, reduceCtorEq, Int.reduceToNat, g24, h, hs, hh]; first | (rename_i K k; (first | refine yC (k _ _ ?_) | refine zg (k _ ?_)); clear k K) | (rename_i A B C D a b c d; (first | refine zx (a ?_) | refine zy (b ?_) | refine zz (fun hc => c ?_) (fun hc => d ?_) | refine zv (b ?_) | refine zw (a ?_)) <;> clear a b c d A B C D <;> try simp only [yL] at hc)) | refine zA ?_ | refine zB ?_ | refine zF ?_)
  exact hPost _ _ ⟨rfl, rfl⟩
theorem size_ok (h : MemAt H i j gc m) : ∃ r H', gev G 24 [ptr i] H = some (r, H') ∧ (r = .int .i64 (m.size : Int) ∧ H' = H) := size_of (h.rd 0) h.big
theorem size_up (h : MemAt H i j gc m) : ∃ r H', gev G 24 [ptr i] H.up = some (r, H') ∧ (r = .int .i64 (m.size : Int) ∧ H' = H.up) := size_of (H := H.up) (h.rd 0) h.big
theorem gslice_id {H : GHeap} {s j o n gc : Nat} {lo hi : Option Value} {v' : Value} (h : gslice (.sl s) H (.slice (some ⟨j, o, none⟩) n gc) lo hi none = some v') : idOf v' = [j] := by
  cases hu : H.unit j with
  | none => simp only [gslice, hu] at h; cases h
  | some u =>
    simp only [gslice, hu] at h
    split at h
    · cases hb : gbounds n (if gc = 0 then n else gc - 1) lo hi with
      | none => rw [hb] at h; cases h
      | some p => rw [hb] at h; cases h; rfl
    · cases h
theorem bank_ok (hw : H.wf) (h : MemAt H i j gc m) {b : Nat} (hb : b < 2) : ∃ r H', gev G 38 [ptr i, .int .i64 b] H = some (r, H') ∧ (RB H r (bankB m.data b) ∧ idOf r = [j] ∧ H' = H) := by
  refine gev_GW (f := 38) rfl fun Post hPost => ?_
  have hbig := h.big
  have hrd := h.rd
  have hsz : m.size = m.data.length / 2 := rfl
  have hm1 : b * m.size ≤ m.data.length ∧ (b + 1) * m.size ≤ m.data.length ∧ b * m.size ≤ (b + 1) * m.size := by
    rcases (show b = 0 ∨ b = 1 by omega) with rfl | rfl <;> omega
  have k1 : ∀ e, gbin .mul e (.int .i64 (b : Int)) (.int .i64 (m.size : Int)) = some (.int .i64 ((b * m.size : Nat) : Int)) := fun e => by
    rw [gb_mul, ← Int.natCast_mul, wr_i64 (by omega)]
  have k2 : ∀ e, gbin .mul e (.int .i64 ((b : Int) + 1)) (.int .i64 (m.size : Int)) = some (.int .i64 (((b + 1) * m.size : Nat) : Int)) := fun e => by
    rw [gb_mul, show ((b : Int) + 1) = ((b + 1 : Nat) : Int) by omega, ← Int.natCast_mul, wr_i64 (by omega)]
  obtain ⟨v', e1, e2⟩ := (h.rb hw).slice (k := .i64) (a := ((b * m.size : Nat) : Int)) (b := (((b + 1) * m.size : Nat) : Int)) (by omega) (by omega) (by omega)
  rw [Int.toNat_natCast, Int.toNat_natCast] at e2
  simp only [frameOf, Nat.reduceAdd, ptr]
  repeat' (first | refine zn ?_ | refine zK rfl ?_ | refine zP rfl ?_ | ((first | refine zm ?_ | skip); intro _; intros; simp (disch := first | exact zd | fail) only [↓yS, yT, gresults, gone, ↓reduceIte, Nat.reduceEqDiff, Nat.reduceAdd, Nat.reduceMul, reduceCtorEq, Int.reduceToNat, g38, hrd, memCells]; first | (rename_i K k; (first | refine yC (k _ _ ?_) | refine zg (k _ ?_)); clear k K) | (rename_i A B C D a b c d; (first | refine zx (a ?_) | refine zy (b ?_) | refine zz (fun hc => c ?_) (fun hc => d ?_) | refine zv (b ?_) | refine zw (a ?_)) <;> clear a b c d A B C D <;> try simp only [yL] at hc)) | refine zA ?_ | refine zB ?_ | refine zF ?_)
  refine Gw_s fun K' hK' => G1_callM (by simp only [gtarget, ↓GArg.ev, ↓evs, ↓Tr.get_set, Nat.reduceEqDiff, if_true, if_false, ↓reduceIte, Option.map_some]; rfl) (size_up h) fun r' H' hq => hK' _ _ ?_
  obtain ⟨rfl, rfl⟩ := hq
  rw [updown]
  repeat' (first | refine zn ?_ | refine zK rfl ?_ | refine zP rfl ?_ | ((first | refine zm ?_ | skip); intro _; intros; simp (disch := first | exact zd | fail) only [↓yS, yT, gresults, gone, ↓reduceIte, Nat.reduceEqDiff, Nat.reduceAdd, Nat.reduceMul, reduceCtorEq, Int.reduceToNat, g38, hrd, memCells, k1, k2]; first | (rename_i K k; (first | refine yC (k _ _ ?_) | refine zg (k _ ?_)); clear k K) | (rename_i A B C D a b c d; (first | refine zx (a ?_) | refine zy (b ?_) | refine zz (fun hc => c ?_) (fun hc => d ?_) | refine zv (b ?_) | refine zw (a ?_)) <;> clear a b c d A B C D <;> try simp only [yL] at hc)) | refine zA ?_ | refine zB ?_ | refine zF ?_)
  refine Gw_s fun K' hK' => G1_callM (by simp only [gtarget, ↓GArg.ev, ↓evs, ↓Tr.get_set, Nat.reduceEqDiff, if_true, if_false, ↓reduceIte, Option.map_some]; rfl) (size_up h) fun r' H' hq => hK' _ _ ?_
  obtain ⟨rfl, rfl⟩ := hq
  rw [updown]
  repeat' (first | refine zn ?_ | refine zK rfl ?_ | refine zP rfl ?_ | ((first | refine zm ?_ | skip); intro _; intros; simp (disch := first | exact zd | fail) only [↓yS, yT, gresults, gone, ↓reduceIte, Nat.reduceEqDiff, Nat.reduceAdd, Nat.reduceMul, reduceCtorEq, Int.reduceToNat, g38, hrd, memCells, k1, k2, e1]; first | (rename_i K k; (first | refine yC (k _ _ ?_) | refine zg (k _ ?_)); clear k K) | (rename_i A B C D a b c d; (first | refine zx (a ?_) | refine zy (b ?_) | refine zz (fun hc => c ?_) (fun hc => d ?_) | refine zv (b ?_) | refine zw (a ?_)) <;> clear a b c d A B C D <;> try simp only [yL] at hc)) | refine zA ?_ | refine zB ?_ | refine zF ?_)
  exact hPost _ _ ⟨e2, gslice_id e1, rfl⟩
theorem bankB_length {d : List UInt8} {b : Nat} (hb : b < 2) : (bankB d b).length = d.length / 2 := by
  have : b * (d.length / 2) + d.length / 2 ≤ d.length := by
    rcases (show b = 0 ∨ b = 1 by omega) with rfl | rfl <;> omega
  simp only [bankB, sub, List.length_take, List.length_drop, Nat.add_mul]
  omega
def genV : Option Nat → Value
  | some g => .tuple #[.int .u64 (g : Int), .bool true]
  | none => .tuple #[.int .u64 0, .bool false]
theorem generation_ok (hw : H.wf) (h : MemAt H i j gc m) {b : Nat} (hb : b < 2) : ∃ r H', gev G 54 [ptr i, .int .i64 b] H = some (r, H') ∧ (r = genV (genB (bankB m.data b)) ∧ Same H H') := by
  refine gev_GW (f := 54) rfl fun Post hPost => ?_
  have hlow := h.low
  have hbig := h.big
  have hbl := bankB_length (d := m.data) hb
  simp only [frameOf, Nat.reduceAdd, ptr]
  repeat' (first | refine zn ?_ | refine zK rfl ?_ | refine zP rfl ?_ | ((first | refine zm ?_ | skip); intro _; intros; simp (disch := first | exact zd | fail) only [↓yS, yT, gresults, gone, ↓reduceIte, Nat.reduceEqDiff, Nat.reduceAdd, Nat.reduceMul, reduceCtorEq, Int.reduceToNat, g54]; first | (rename_i K k; (first | refine yC (k _ _ ?_) | refine zg (k _ ?_)); clear k K) | (rename_i A B C D a b c d; (first | refine zx (a ?_) | refine zy (b ?_) | refine zz (fun hc => c ?_) (fun hc => d ?_) | refine zv (b ?_) | refine zw (a ?_)) <;> clear a b c d A B C D <;> try simp only [yL] at hc)) | refine zA ?_ | refine zB ?_ | refine zF ?_)
  refine Gw_s fun K' hK' => G1_call (by simp only [gtarget, ↓GArg.ev, ↓evs, ↓Tr.get_set, Nat.reduceEqDiff, if_true, if_false, ↓reduceIte, Option.map_some]; rfl) (bank_ok hw h hb) fun r' H' hq => hK' _ _ ?_
  obtain ⟨hB, _, rfl⟩ := hq
  generalize bankB m.data b = B at *
  have hsl := hB.isSl
  have hbd : ∀ k : Nat, k < B.length → H'.rd (blk r') (ofs r' + k) = some (.int .u8 B[k]!.toNat) := fun k hk => hB.read hk
  have h0 : H'.rd (blk r') (ofs r') = some (.int .u8 B[0]!.toNat) := hbd 0 (by omega)
  have hia : gia none 1 r' (.int .i64 0) = some (.pointer (some ⟨blk r', ofs r', none⟩)) := by rw [hsl.ia (by omega) (by omega)]; rfl
  obtain ⟨v2, e1, e2⟩ := hB.slice (k := .i64) (a := 1) (b := 13) (by omega) (by omega) (by omega)
  have e2 : RB H' v2 (sub B 1 13) := e2
  repeat' (first | refine zn ?_ | refine zK rfl ?_ | refine zP rfl ?_ | ((first | refine zm ?_ | skip); intro _; intros; simp (disch := first | exact zd | fail) only [↓yS, yT, gresults, gone, ↓reduceIte, Nat.reduceEqDiff, Nat.reduceAdd, Nat.reduceMul, reduceCtorEq, Int.reduceToNat, g54, hia, h0, e1]; first | (rename_i K k; (first | refine yC (k _ _ ?_) | refine zg (k _ ?_)); clear k K) | (rename_i A B C D a b c d; (first | refine zx (a ?_) | refine zy (b ?_) | refine zz (fun hc => c ?_) (fun hc => d ?_) | refine zv (b ?_) | refine zw (a ?_)) <;> clear a b c d A B C D <;> try simp only [yL] at hc)) | refine zA ?_ | refine zB ?_ | refine zF ?_)
  case refine_1 =>
    refine hPost _ _ ⟨?_, Same.refl hw⟩
    rw [genB, if_pos]
    · rfl
    · intro he; rw [he] at hc; exact hc rfl
  case refine_2 =>
  have hg : genB B = (openB (sub B 1 13)).map leN := by
    rw [genB, if_neg]
    intro hn; apply hn
    rw [← UInt8.toNat_inj]; exact_mod_cast hc
  have hlen : (sub B 1 13).length = 12 := by simp [sub]; omega
  refine Gw_s fun K' hK' => G1_call (by simp only [gtarget, ↓GArg.ev, ↓evs, ↓Tr.get_set, Nat.reduceEqDiff, if_true, if_false, ↓reduceIte, Option.map_some]; rfl) (open_ok hw e2 (by omega)) fun r2 H2 hq => hK' _ _ ?_
  cases ho : openB (sub B 1 13) with
  | none =>
    rw [ho] at hq hg
    obtain ⟨hS, e, hne, rfl⟩ := hq
    repeat' (first | refine zn ?_ | refine zK rfl ?_ | refine zP rfl ?_ | ((first | refine zm ?_ | skip); intro _; intros; simp (disch := first | exact zd | fail) only [↓yS, yT, gresults, gone, ↓reduceIte, Nat.reduceEqDiff, Nat.reduceAdd, Nat.reduceMul, reduceCtorEq, Int.reduceToNat, g54]; first | (rename_i K k; (first | refine yC (k _ _ ?_) | refine zg (k _ ?_)); clear k K) | (rename_i A B C D a b c d; (first | refine zx (a ?_) | refine zy (b ?_) | refine zz (fun hc => c ?_) (fun hc => d ?_) | refine zv (b ?_) | refine zw (a ?_)) <;> clear a b c d A B C D <;> try simp only [yL] at hc)) | refine zA ?_ | refine zB ?_ | refine zF ?_)
    refine Gw_s fun K' hK' => G1_call (by simp only [gtarget, ↓GArg.ev, ↓evs, ↓Tr.get_set, Nat.reduceEqDiff, if_true, if_false, ↓reduceIte, Option.map_some]; rfl) (num_ok RB.nil (by simp)) fun r3 H3 hq => hK' _ _ ?_
    obtain ⟨rfl, rfl⟩ := hq
    repeat' (first | refine zn ?_ | refine zK rfl ?_ | refine zP rfl ?_ | ((first | refine zm ?_ | skip); intro _; intros; simp (disch := first | exact zd | fail) only [↓yS, yT, gresults, gone, ↓reduceIte, Nat.reduceEqDiff, Nat.reduceAdd, Nat.reduceMul, reduceCtorEq, Int.reduceToNat, g54]; first | (rename_i K k; (first | refine yC (k _ _ ?_) | refine zg (k _ ?_)); clear k K) | (rename_i A B C D a b c d; (first | refine zx (a ?_) | refine zy (b ?_) | refine zz (fun hc => c ?_) (fun hc => d ?_) | refine zv (b ?_) | refine zw (a ?_)) <;> clear a b c d A B C D <;> try simp only [yL] at hc)) | refine zA ?_ | refine zB ?_ | refine zF ?_)
    refine hPost _ _ ⟨?_, hS⟩
    rw [hg]
    simp [genV, leN, hne]
  | some p =>
    rw [ho] at hq hg
    obtain ⟨v3, rfl, hO⟩ := hq
    have hl2 := openB_length ho
    repeat' (first | refine zn ?_ | refine zK rfl ?_ | refine zP rfl ?_ | ((first | refine zm ?_ | skip); intro _; intros; simp (disch := first | exact zd | fail) only [↓yS, yT, gresults, gone, ↓reduceIte, Nat.reduceEqDiff, Nat.reduceAdd, Nat.reduceMul, reduceCtorEq, Int.reduceToNat, g54]; first | (rename_i K k; (first | refine yC (k _ _ ?_) | refine zg (k _ ?_)); clear k K) | (rename_i A B C D a b c d; (first | refine zx (a ?_) | refine zy (b ?_) | refine zz (fun hc => c ?_) (fun hc => d ?_) | refine zv (b ?_) | refine zw (a ?_)) <;> clear a b c d A B C D <;> try simp only [yL] at hc)) | refine zA ?_ | refine zB ?_ | refine zF ?_)
    refine Gw_s fun K' hK' => G1_call (by simp only [gtarget, ↓GArg.ev, ↓evs, ↓Tr.get_set, Nat.reduceEqDiff, if_true, if_false, ↓reduceIte, Option.map_some]; rfl) (num_ok hO.rb (by omega)) fun r3 H3 hq => hK' _ _ ?_
    obtain ⟨rfl, rfl⟩ := hq
    repeat' (first | refine zn ?_ | refine zK rfl ?_ | refine zP rfl ?_ | ((first | refine zm ?_ | skip); intro _; intros; simp (disch := first | exact zd | fail) only [↓yS, yT, gresults, gone, ↓reduceIte, Nat.reduceEqDiff, Nat.reduceAdd, Nat.reduceMul, reduceCtorEq, Int.reduceToNat, g54]; first | (rename_i K k; (first | refine yC (k _ _ ?_) | refine zg (k _ ?_)); clear k K) | (rename_i A B C D a b c d; (first | refine zx (a ?_) | refine zy (b ?_) | refine zz (fun hc => c ?_) (fun hc => d ?_) | refine zv (b ?_) | refine zw (a ?_)) <;> clear a b c d A B C D <;> try simp only [yL] at hc)) | refine zA ?_ | refine zB ?_ | refine zF ?_)
    refine hPost _ _ ⟨?_, hO.same⟩
    rw [hg]
    simp [genV]
def chooseV : Option (Nat × Nat) → Value
  | some (i, g) => .tuple #[.int .i64 (i : Int), .int .u64 (g : Int), .bool true]
  | none => .tuple #[.int .i64 0, .int .u64 0, .bool false]
theorem choose_ok (hw : H.wf) (h : MemAt H i j gc m) : ∃ r H', gev G 37 [ptr i] H = some (r, H') ∧ (r = chooseV (chooseB m.data) ∧ Same H H') := by
  refine gev_GW (f := 37) rfl fun Post hPost => ?_
  simp only [frameOf, Nat.reduceAdd]
  repeat' (first | refine zn ?_ | refine zK rfl ?_ | refine zP rfl ?_ | ((first | refine zm ?_ | skip); intro _; intros; simp (disch := first | exact zd | fail) only [↓yS, yT, gresults, gone, ↓reduceIte, Nat.reduceEqDiff, Nat.reduceAdd, Nat.reduceMul, reduceCtorEq, Int.reduceToNat, g37]; first | (rename_i K k; (first | refine yC (k _ _ ?_) | refine zg (k _ ?_)); clear k K) | (rename_i A B C D a b c d; (first | refine zx (a ?_) | refine zy (b ?_) | refine zz (fun hc => c ?_) (fun hc => d ?_) | refine zv (b ?_) | refine zw (a ?_)) <;> clear a b c d A B C D <;> try simp only [yL] at hc)) | refine zA ?_ | refine zB ?_ | refine zF ?_)
  refine Gw_s fun K' hK' => G1_call (by simp only [gtarget, ↓GArg.ev, ↓evs, ↓Tr.get_set, Nat.reduceEqDiff, if_true, if_false, ↓reduceIte, Option.map_some]; rfl) (generation_ok hw h (b := 0) (by omega)) fun r1 H1 hq => hK' _ _ ?_
  obtain ⟨rfl, hS1⟩ := hq
  have h1 := h.later hw hS1
  have hch : chooseB m.data = match genB (bankB m.data 0), genB (bankB m.data 1) with
    | none, none => none
    | some a, none => some (0, a)
    | none, some b => some (1, b)
    | some a, some b => if a < b then some (1, b) else some (0, a) := rfl
  cases hg0 : genB (bankB m.data 0) <;> cases hg1 : genB (bankB m.data 1) <;> rw [hg0, hg1] at hch <;> simp only [genV]
  all_goals
    repeat' (first | refine zn ?_ | refine zK rfl ?_ | refine zP rfl ?_ | ((first | refine zm ?_ | skip); intro _; intros; simp (disch := first | exact zd | fail) only [↓yS, yT, gresults, gone, ↓reduceIte, Nat.reduceEqDiff, Nat.reduceAdd, Nat.reduceMul, reduceCtorEq, Int.reduceToNat, g37]; first | (rename_i K k; (first | refine yC (k _ _ ?_) | refine zg (k _ ?_)); clear k K) | (rename_i A B C D a b c d; (first | refine zx (a ?_) | refine zy (b ?_) | refine zz (fun hc => c ?_) (fun hc => d ?_) | refine zv (b ?_) | refine zw (a ?_)) <;> clear a b c d A B C D <;> try simp only [yL] at hc)) | refine zA ?_ | refine zB ?_ | refine zF ?_)
    refine Gw_s fun K' hK' => G1_call (by simp only [gtarget, ↓GArg.ev, ↓evs, ↓Tr.get_set, Nat.reduceEqDiff, if_true, if_false, ↓reduceIte, Option.map_some]; rfl) (generation_ok hS1.wf h1 (b := 1) (by omega)) fun r2 H2 hq => hK' _ _ ?_
    obtain ⟨rfl, hS2⟩ := hq
    rw [hg1]
    simp only [genV]
    repeat' (first | refine zn ?_ | refine zK rfl ?_ | refine zP rfl ?_ | ((first | refine zm ?_ | skip); intro _; intros; simp (disch := first | exact zd | fail) only [↓yS, yT, gresults, gone, ↓reduceIte, Nat.reduceEqDiff, Nat.reduceAdd, Nat.reduceMul, reduceCtorEq, Int.reduceToNat, g37]; first | (rename_i K k; (first | refine yC (k _ _ ?_) | refine zg (k _ ?_)); clear k K) | (rename_i A B C D a b c d; (first | refine zx (a ?_) | refine zy (b ?_) | refine zz (fun hc => c ?_) (fun hc => d ?_) | refine zv (b ?_) | refine zw (a ?_)) <;> clear a b c d A B C D <;> try simp only [yL] at hc)) | refine zA ?_ | refine zB ?_ | refine zF ?_)
  case some.some.refine_1 =>
    refine hPost _ _ ⟨?_, hS1.trans hS2⟩
    rw [hch]; dsimp only; rw [if_pos (by omega)]; rfl
  case some.some.refine_2 =>
    refine hPost _ _ ⟨?_, hS1.trans hS2⟩
    rw [hch]; dsimp only; rw [if_neg (by omega)]; rfl
  all_goals exact hPost _ _ ⟨by first | (rw [hch]; done) | (rw [hch]; rfl), hS1.trans hS2⟩
end
/-- the objects of a memory -/
def mo (i j : Nat) : Nat → Prop := fun k => k = i ∨ k = j
section
variable {H H' : GHeap} {i j gc : Nat} {m : JM}
theorem MemAt.set (hw : H.wf) (h : MemAt H i j gc m) (m' : JM) (hd : m'.data = m.data) : MemAt (H.put i (.cells (memCells j gc m') 0 true)) i j gc m' ∧ But (mo i j) H (H.put i (.cells (memCells j gc m') 0 true)) := by
  have hl := mine_lt hw h.obj
  refine ⟨⟨mine_put_same (mine_obj h.obj).1, ?_, h.ne, by rw [hd]; exact h.cap, by rw [hd]; exact h.big, by rw [hd]; exact h.low⟩, (But.refl hw).put (.inl rfl) hl _⟩
  rw [mine_put_ne h.ne, hd]; exact h.dat
theorem memCells_len {j gc : Nat} {m : JM} : (memCells j gc m).length = 4 := rfl
theorem arm_ok (hw : H.wf) (h : MemAt H i j gc m) {n : Int} (hn : -9223372036854775808 ≤ n ∧ n ≤ 9223372036854775807) :
    ∃ r H', gev G 20 [ptr i, .int .i64 n] H = some (r, H') ∧ (MemAt H' i j gc {m with armed := true, left := max n 0} ∧ But (mo i j) H H') := by
  refine gev_GW (f := 20) rfl fun Post hPost => ?_
  have hob := h.obj
  have hl := mine_lt hw hob
  have hm : ∀ cs, (H.put i (.cells cs 0 true)).mine i = some (cs, 0) := fun cs => mine_put_same (mine_obj hob).1
  simp only [frameOf, Nat.reduceAdd, ptr]
  repeat' (first | refine zn ?_ | refine zK rfl ?_ | refine zP rfl ?_ | ((first | refine zm ?_ | skip); intro _; intros; simp (disch := first | exact zd | fail) only [↓yS, yT, gresults, gone, ↓reduceIte, Nat.reduceEqDiff, Nat.reduceAdd, Nat.reduceMul, reduceCtorEq, Int.reduceToNat, g20, hob, hm, memCells]; first | (rename_i K k; (first | refine yC (k _ _ ?_) | refine zg (k _ ?_)); clear k K) | (rename_i A B C D a b c d; (first | refine zx (a ?_) | refine zy (b ?_) | refine zz (fun hc => c ?_) (fun hc => d ?_) | refine zv (b ?_) | refine zw (a ?_)) <;> clear a b c d A B C D <;> try simp only [yL] at hc)) | refine zA ?_ | refine zB ?_ | refine zF ?_)
  exact hPost _ _ (h.set hw {m with armed := true, left := max n 0} rfl)
theorem on_ok (hw : H.wf) (h : MemAt H i j gc m) :
    ∃ r H', gev G 21 [ptr i] H = some (r, H') ∧ (MemAt H' i j gc {m with armed := false, left := 0, off := false} ∧ But (mo i j) H H') := by
  refine gev_GW (f := 21) rfl fun Post hPost => ?_
  have hob := h.obj
  have hl := mine_lt hw hob
  have hm : ∀ cs, (H.put i (.cells cs 0 true)).mine i = some (cs, 0) := fun cs => mine_put_same (mine_obj hob).1
  simp only [frameOf, Nat.reduceAdd, ptr]
  repeat' (first | refine zn ?_ | refine zK rfl ?_ | refine zP rfl ?_ | ((first | refine zm ?_ | skip); intro _; intros; simp (disch := first | exact zd | fail) only [↓yS, yT, gresults, gone, ↓reduceIte, Nat.reduceEqDiff, Nat.reduceAdd, Nat.reduceMul, reduceCtorEq, Int.reduceToNat, g21, hob, hm, memCells]; first | (rename_i K k; (first | refine yC (k _ _ ?_) | refine zg (k _ ?_)); clear k K) | (rename_i A B C D a b c d; (first | refine zx (a ?_) | refine zy (b ?_) | refine zz (fun hc => c ?_) (fun hc => d ?_) | refine zv (b ?_) | refine zw (a ?_)) <;> clear a b c d A B C D <;> try simp only [yL] at hc)) | refine zA ?_ | refine zB ?_ | refine zF ?_)
  exact hPost _ _ (h.set hw {m with armed := false, left := 0, off := false} rfl)
theorem off_ok (h : MemAt H i j gc m) : ∃ r H', gev G 26 [ptr i] H = some (r, H') ∧ (r = .bool m.off ∧ H' = H) := by
  refine gev_GW (f := 26) rfl fun Post hPost => ?_
  have hrd := h.rd
  simp only [frameOf, Nat.reduceAdd, ptr]
  repeat' (first | refine zn ?_ | refine zK rfl ?_ | refine zP rfl ?_ | ((first | refine zm ?_ | skip); intro _; intros; simp (disch := first | exact zd | fail) only [↓yS, yT, gresults, gone, ↓reduceIte, Nat.reduceEqDiff, Nat.reduceAdd, Nat.reduceMul, reduceCtorEq, Int.reduceToNat, g26, hrd, memCells]; first | (rename_i K k; (first | refine yC (k _ _ ?_) | refine zg (k _ ?_)); clear k K) | (rename_i A B C D a b c d; (first | refine zx (a ?_) | refine zy (b ?_) | refine zz (fun hc => c ?_) (fun hc => d ?_) | refine zv (b ?_) | refine zw (a ?_)) <;> clear a b c d A B C D <;> try simp only [yL] at hc)) | refine zA ?_ | refine zB ?_ | refine zF ?_)
  exact hPost _ _ ⟨rfl, rfl⟩
theorem clone_ok (hw : H.wf) {a : Addr} {n gc : Nat} {l : List UInt8} (hv : RB H (.slice (some a) n gc) l) (hl : l.length < 70368744177664) : ∃ r H', gev G 45 [.slice (some a) n gc] H = some (r, H') ∧ OB H H' r l := by
  refine gev_GW (f := 45) rfl fun Post hPost => ?_
  simp only [frameOf, Nat.reduceAdd]
  repeat' (first | refine zn ?_ | refine zK rfl ?_ | refine zP rfl ?_ | ((first | refine zm ?_ | skip); intro _; intros; simp (disch := first | exact zd | fail) only [↓yS, yT, gresults, gone, ↓reduceIte, Nat.reduceEqDiff, Nat.reduceAdd, Nat.reduceMul, reduceCtorEq, Int.reduceToNat, g45]; first | (rename_i K k; (first | refine yC (k _ _ ?_) | refine zg (k _ ?_)); clear k K) | (rename_i A B C D a b c d; (first | refine zx (a ?_) | refine zy (b ?_) | refine zz (fun hc => c ?_) (fun hc => d ?_) | refine zv (b ?_) | refine zw (a ?_)) <;> clear a b c d A B C D <;> try simp only [yL] at hc)) | refine zA ?_ | refine zB ?_ | refine zF ?_)
  have hO0 := OB.made (l := []) (Same.refl hw) rfl 1 (.inr rfl)
  refine Gw_s fun K' hK' => ?_
  simp (disch := first | exact zd | fail) only [↓yS, yT, ↓reduceIte, Nat.reduceEqDiff, Nat.reduceAdd, Nat.reduceMul, reduceCtorEq, Int.reduceToNat]
  obtain ⟨v', H', e, hO⟩ := hO0.app (hv.same_ hw hO0.same) (by simp; omega)
  refine G1_eq e (hK' _ _ ?_)
  clear hK' K' e
  repeat' (first | refine zn ?_ | refine zK rfl ?_ | refine zP rfl ?_ | ((first | refine zm ?_ | skip); intro _; intros; simp (disch := first | exact zd | fail) only [↓yS, yT, gresults, gone, ↓reduceIte, Nat.reduceEqDiff, Nat.reduceAdd, Nat.reduceMul, reduceCtorEq, Int.reduceToNat, g45]; first | (rename_i K k; (first | refine yC (k _ _ ?_) | refine zg (k _ ?_)); clear k K) | (rename_i A B C D a b c d; (first | refine zx (a ?_) | refine zy (b ?_) | refine zz (fun hc => c ?_) (fun hc => d ?_) | refine zv (b ?_) | refine zw (a ?_)) <;> clear a b c d A B C D <;> try simp only [yL] at hc)) | refine zA ?_ | refine zB ?_ | refine zF ?_)
  exact hPost _ _ (by simpa using hO)
theorem drop_bang {p : List UInt8} {q : Nat} (h : q < p.length) : p.drop q = p[q]! :: p.drop (q + 1) := by
  rw [List.drop_eq_getElem_cons h, getElem!_pos p q h]
theorem wrB_stop {m : JM} {o : Nat} {b : UInt8} {r : List (Nat × UInt8)} (h : m.off = true ∨ (m.armed = true ∧ m.left = 0)) : wrB m ((o, b) :: r) = ({m with off := true}, false) := by
  rw [wrB, if_pos]
  rcases h with h | ⟨h1, h2⟩
  · simp [h]
  · simp [h1, h2]
theorem wrB_eta {m : JM} (h : m.off = true) : ({m with off := true} : JM) = m := by
  obtain ⟨d, a, l, o⟩ := m; simp only at h; subst h; rfl
theorem wrB_go {m : JM} {o : Nat} {b : UInt8} {r : List (Nat × UInt8)} (h : m.off = false) (h2 : ¬ (m.armed = true ∧ m.left = 0)) : wrB m ((o, b) :: r) = wrB {m with left := IntKind.i64.wrap (m.left - 1), data := m.data.set o b} r := by
  rw [wrB, if_neg]
  simp only [h, Bool.false_or, Bool.and_eq_true, beq_iff_eq]; exact h2
theorem MemAt.step (hw : H.wf) (h : MemAt H i j gc m) (o : Nat) (b : UInt8) (_ho : o < m.data.length) : MemAt ((H.put i (.cells (memCells j gc {m with left := IntKind.i64.wrap (m.left - 1)}) 0 true)).put j (.cells (u8s (m.data.set o b)) 257 true)) i j gc {m with left := IntKind.i64.wrap (m.left - 1), data := m.data.set o b} := by
  refine ⟨?_, mine_put_same (mine_obj h.dat).1, h.ne, by simp only [List.length_set]; exact h.cap, by simp only [List.length_set]; exact h.big, by simp only [List.length_set]; exact h.low⟩
  rw [mine_put_ne (Ne.symm h.ne), mine_put_same (mine_obj h.obj).1]
  simp only [memCells, List.length_set]
theorem MemAt.stepB (hw : H.wf) (h : MemAt H i j gc m) (cs : List Value) (l : List UInt8) : But (mo i j) H ((H.put i (.cells cs 0 true)).put j (.cells (u8s l) 257 true)) :=
  ((But.refl hw).put (.inl rfl) (mine_lt hw h.obj) _).put (.inr rfl) (by rw [len_put]; exact mine_lt hw h.dat) _
theorem write_ok (hw : H.wf) (h : MemAt H i j gc m) {v : Value} {p : List UInt8} (hp : RB H v p) (ha : ∀ a ∈ idOf v, ¬ mo i j a) {o : Nat} (ho : o + p.length ≤ m.data.length) :
    ∃ r H', gev G 41 [ptr i, .int .i64 o, v] H = some (r, H') ∧ (r = .bool (wrB m (at_ o p)).2 ∧ MemAt H' i j gc (wrB m (at_ o p)).1 ∧ But (mo i j) H H') := by
  refine gev_GW (f := 41) rfl fun Post hPost => ?_
  have hsl := hp.isSl
  have hbig := h.big
  simp only [frameOf, Nat.reduceAdd]
  repeat' (first | refine zn ?_ | refine zK rfl ?_ | refine zP rfl ?_ | ((first | refine zm ?_ | skip); intro _; intros; simp (disch := first | exact zd | fail) only [↓yS, yT, gresults, gone, ↓reduceIte, Nat.reduceEqDiff, Nat.reduceAdd, Nat.reduceMul, reduceCtorEq, Int.reduceToNat, g41, hsl.len]; first | (rename_i K k; (first | refine yC (k _ _ ?_) | refine zg (k _ ?_)); clear k K) | (rename_i A B C D a b c d; (first | refine zx (a ?_) | refine zy (b ?_) | refine zz (fun hc => c ?_) (fun hc => d ?_) | refine zv (b ?_) | refine zw (a ?_)) <;> clear a b c d A B C D <;> try simp only [yL] at hc)) | refine zA ?_ | refine zB ?_ | refine zF ?_)
  refine GW_loop (fun k fr H1 => ∃ (q : Nat) (m1 : JM), q ≤ p.length ∧ k = p.length - q ∧ fr.get 0 = some (ptr i) ∧ fr.get 1 = some (.int .i64 o) ∧ fr.get 9 = some (v) ∧ fr.get 10 = some (.int .i64 p.length) ∧ fr.get 11 = some (.int .i64 q) ∧ MemAt H1 i j gc m1 ∧ But (mo i j) H H1 ∧ m1.data.length = m.data.length ∧ wrB m (at_ o p) = wrB m1 (at_ (o + q) (p.drop q))) ?_ p.length ?_
  case refine_2 =>
    refine ⟨0, m, by omega, by omega, ?_⟩
    simp only [↓yG, Nat.reduceEqDiff, ↓reduceIte, Int.natCast_add, Int.cast_ofNat_Int, Int.natCast_zero, true_and, and_true, Option.some.injEq, Value.int.injEq]
    exact ⟨h, But.refl hw, rfl⟩
  rintro k fr H1 ⟨q, m1, hq, rfl, f0, f1, f9, f10, f11, hM, hB, hl1, hwr⟩ J hJ
  have hw1 := hB.wf
  have hp1 := hp.but hw hB ha
  have hrd := hM.rd
  have hob := hM.obj
  have hdt := hM.dat
  have hl := mine_lt hw1 hob
  have hlj := mine_lt hw1 hdt
  have hne := hM.ne
  have hm : ∀ cs, (H1.put i (.cells cs 0 true)).mine i = some (cs, 0) := fun cs => mine_put_same (mine_obj hob).1
  have hbd : ∀ k : Nat, k < p.length → H1.rd (blk v) (ofs v + k) = some (.int .u8 p[k]!.toNat) := fun k hk => hp1.read hk
  have hs2 : q < p.length → ∀ kd, gia none 1 (datv j m1.data.length gc) (.int kd ((o : Int) + q)) = some (.pointer (some ⟨j, o + q, none⟩)) := fun hq2 kd => by
    rw [hM.isSl.ia (by omega) (by omega)]
    have : ((o : Int) + q).toNat = o + q := by omega
    rw [this]; simp [blk, ofs, datv]
  repeat' (first | refine zn ?_ | refine zK rfl ?_ | refine zP rfl ?_ | ((first | refine zm ?_ | skip); intro _; intros; simp (disch := first | exact zd | fail) only [↓yS, yT, gresults, gone, ↓reduceIte, Nat.reduceEqDiff, Nat.reduceAdd, Nat.reduceMul, reduceCtorEq, Int.reduceToNat, g41, f0, f1, f9, f10, f11, hsl.len, hsl.ia, hbd, hrd, hob, hm, ptr, memCells, hs2, hdt, u8s_setb]; first | (rename_i K k; (first | refine yC (k _ _ ?_) | refine zg (k _ ?_)); clear k K) | (rename_i A B C D a b c d; (first | refine zx (a ?_) | refine zy (b ?_) | refine zz (fun hc => c ?_) (fun hc => d ?_) | refine zv (b ?_) | refine zw (a ?_)) <;> clear a b c d A B C D <;> try simp only [yL] at hc)) | refine zA ?_ | refine zB ?_ | refine zF ?_)
  case refine_1.refine_2 =>
    refine hPost _ _ ?_
    rw [hwr, List.drop_eq_nil_of_le (by omega)]
    exact ⟨rfl, hM, hB⟩
  case refine_1.refine_1.refine_1.refine_1 h1 h2 =>
    refine hPost _ _ ?_
    rw [hwr, drop_bang (by omega), at_, wrB_stop (.inr ⟨h2, hc⟩)]
    obtain ⟨k1, k2⟩ := hM.set hw1 {m1 with off := true} rfl
    exact ⟨rfl, k1, hB.trans k2⟩
  case refine_1.refine_1.refine_1.refine_2.refine_1 h1 h2 =>
    refine hPost _ _ ?_
    rw [hwr, drop_bang (by omega), at_, wrB_stop (.inl hc), wrB_eta hc]
    exact ⟨rfl, hM, hB⟩
  case refine_1.refine_1.refine_2.refine_1 =>
    refine hPost _ _ ?_
    rw [hwr, drop_bang (by omega), at_, wrB_stop (.inl hc), wrB_eta hc]
    exact ⟨rfl, hM, hB⟩
  case refine_1.refine_1.refine_1.refine_2.refine_2 h1 h2 h3 =>
    refine hJ _ _ ⟨p.length - (q + 1), by omega, q + 1, {m1 with left := IntKind.i64.wrap (m1.left - 1), data := m1.data.set (o + q) p[q]!}, by omega, rfl, ?_⟩
    simp only [↓yG, Nat.reduceEqDiff, ↓reduceIte, Int.natCast_add, Int.cast_ofNat_Int, Int.natCast_zero, true_and, and_true, Option.some.injEq, Value.int.injEq, f0, f1, f9, f10]
    refine ⟨hM.step hw1 _ _ (by omega), hB.trans (hM.stepB hw1 _ _), by rw [List.length_set]; exact hl1, ?_⟩
    rw [hwr, drop_bang (by omega), at_, wrB_go hc (fun h => h3 h.2)]; rfl
  case refine_1.refine_1.refine_2.refine_2 h1 h2 =>
    refine hJ _ _ ⟨p.length - (q + 1), by omega, q + 1, {m1 with left := IntKind.i64.wrap (m1.left - 1), data := m1.data.set (o + q) p[q]!}, by omega, rfl, ?_⟩
    simp only [↓yG, Nat.reduceEqDiff, ↓reduceIte, Int.natCast_add, Int.cast_ofNat_Int, Int.natCast_zero, true_and, and_true, Option.some.injEq, Value.int.injEq, f0, f1, f9, f10]
    refine ⟨hM.step hw1 _ _ (by omega), hB.trans (hM.stepB hw1 _ _), by rw [List.length_set]; exact hl1, ?_⟩
    rw [hwr, drop_bang (by omega), at_, wrB_go hc (fun h => by rw [h2] at h; exact absurd h.1 (by decide))]; rfl
end
end Go.Gh
