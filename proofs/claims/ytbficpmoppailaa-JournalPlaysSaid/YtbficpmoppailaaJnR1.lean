/-
  The reference's memory, walked: NewMemory.
-/
import Derived.Test.YtbficpmoppailaaJnL
namespace Go.Gh
set_option linter.unusedSimpArgs false
set_option linter.unusedVariables false
set_option maxHeartbeats 4000000
open Go.RowKit
set_option maxRecDepth 4000

/-- a memory of the reference: a value; its bytes in a row of its own (object j) -/
def rmC (dv : Value) (m : JM) : List Value := [.int .i64 (m.size : Int), dv, .bool m.armed, .int .i64 m.left, .bool m.off]
def rmV (dv : Value) (m : JM) : Value := .agg (rmC dv m).toArray
/-- what the reference's NewMemory returns -/
def RNewOut (H H' : GHeap) (r : Value) (size : Int) : Prop :=
  if size < 64 ∨ 8388608 < size then r = .tuple #[.agg #[.int .i64 0, .slice none 0 0, .bool false, .int .i64 0, .bool false], .int .i64 2] ∧ Same H H'
  else ∃ dv, r = .tuple #[rmV dv ⟨newB size.toNat, false, 0, false⟩, .int .i64 0] ∧ OB H H' dv (newB size.toNat)
/-- a row whose first bytes are set, one after another -/
def fillRow (l : List UInt8) (n q : Nat) : List UInt8 := l.take q ++ List.replicate (n - q) 0
theorem fillRow_next {l : List UInt8} {n q : Nat} (h : q < l.length) (hn : l.length ≤ n) : (fillRow l n q).set q l[q]! = fillRow l n (q + 1) := by
  unfold fillRow
  have hj : (l.take q).length = q := by simp; omega
  rw [List.set_append_right _ _ (by omega), hj, Nat.sub_self, show n - q = (n - (q + 1)) + 1 by omega, List.replicate_succ, List.set_cons_zero]
  rw [List.take_succ_eq_append_getElem h, ← getElem!_pos l q h]
  simp
theorem fillRow_len {l : List UInt8} {n q : Nat} (h : q ≤ l.length) (hn : l.length ≤ n) : (fillRow l n q).length = n := by simp [fillRow]; omega
theorem rnewmem_ok {H : GHeap} (hw : H.wf) {size : Int} (_hs : -9223372036854775808 ≤ size ∧ size ≤ 9223372036854775807) :
    ∃ r H', gev G 22 [.int .i64 size] H = some (r, H') ∧ RNewOut H H' r size := by
  refine gev_GW (f := 22) rfl fun Post hPost => ?_
  have hlim := hw.1
  have rp5 : ∀ (H : GHeap) (i : Nat) (a b c d e : Value) (u : Nat), (H.put i (.cells [a, b, c, d, e] u true)).rdn i 0 5 = some (.agg #[a, b, c, d, e]) := fun H i a b c d e u => rdn_put_all rfl
  simp only [frameOf, Nat.reduceAdd]
  by_cases hr : size < 64 ∨ 8388608 < size
  · repeat' (first | (exfalso; omega) | refine zn ?_ | refine zK rfl ?_ | refine zP rfl ?_ | ((first | refine zm ?_ | skip); intro _; intros; simp (disch := first | exact zd | fail) only [↓yS, yT, gresults, gone, ↓reduceIte, Nat.reduceEqDiff, Nat.reduceAdd, Nat.reduceMul, reduceCtorEq, Int.reduceToNat, g22, rp5]; first | (rename_i K k; (first | refine yC (k _ _ ?_) | refine zg (k _ ?_)); clear k K) | (rename_i A B C D a b c d; (first | refine zx (a ?_) | refine zy (b ?_) | refine zz (fun hc => c ?_) (fun hc => d ?_) | refine zv (b ?_) | refine zw (a ?_)) <;> clear a b c d A B C D <;> try simp only [yL] at hc)) | refine zA ?_ | refine zB ?_ | refine zF ?_)
    all_goals
      refine hPost _ _ ?_
      unfold RNewOut
      rw [if_pos hr]
      exact ⟨rfl, (Same.refl hw).new _ _⟩
  obtain ⟨n, rfl⟩ : ∃ n : Nat, size = n := ⟨size.toNat, by omega⟩
  repeat' (first | (exfalso; omega) | refine zn ?_ | refine zK rfl ?_ | refine zP rfl ?_ | ((first | refine zm ?_ | skip); intro _; intros; simp (disch := first | exact zd | fail) only [↓yS, yT, gresults, gone, ↓reduceIte, Nat.reduceEqDiff, Nat.reduceAdd, Nat.reduceMul, reduceCtorEq, Int.reduceToNat, g22, rp5]; first | (rename_i K k; (first | refine yC (k _ _ ?_) | refine zg (k _ ?_)); clear k K) | (rename_i A B C D a b c d; (first | refine zx (a ?_) | refine zy (b ?_) | refine zz (fun hc => c ?_) (fun hc => d ?_) | refine zv (b ?_) | refine zw (a ?_)) <;> clear a b c d A B C D <;> try simp only [yL] at hc)) | refine zA ?_ | refine zB ?_ | refine zF ?_)
  rw [show (2 * (n : Int)).toNat = 2 * n by omega]
  rw [show (u8s (List.replicate (2 * n) 0)).set 0 (.int .u8 183) = u8s (183 :: fillRow (sealB (leB 8 1)) (2 * n - 1) 0) from by
    rw [show (.int .u8 183 : Value) = .int .u8 ((183 : UInt8).toNat : Int) from rfl, u8s_setb]
    obtain ⟨q, hq⟩ : ∃ q, 2 * n = q + 1 := ⟨2 * n - 1, by omega⟩
    rw [hq, List.replicate_succ, List.set_cons_zero]; simp [fillRow]]
  have hS12 : (sealB (leB 8 1)).length = 12 := by rw [sealB_length, leB_length]
  generalize hH1 : (((((H.add (some (.cells [.int .i64 0, .slice none 0 0, .bool false, .int .i64 0, .bool false] 0 true))).add (some (.cells (u8s (List.replicate (2 * n) 0)) 257 true))).add (some (.cells [.int .i64 0, .slice none 0 0, .bool false, .int .i64 0, .bool false] 0 true))).put (H.len + 1 + 1) (.cells [.int .i64 (n : Int), .slice (some ⟨H.len + 1, 0, none⟩) (2 * n) (2 * n + 1), .bool false, .int .i64 0, .bool false] 0 true)).put (H.len + 1) (.cells (u8s (183 :: fillRow (sealB (leB 8 1)) (2 * n - 1) 0)) 257 true)) = HX
  have hS1 : Same H HX := by rw [← hH1]; exact (((((Same.refl hw).add _).add _).add _).put (by omega) (by simp only [len_add]; omega) _).put (by omega) (by simp only [len_put, len_add]; omega) _
  have hX1 : HX.mine (H.len + 1) = some (u8s (183 :: fillRow (sealB (leB 8 1)) (2 * n - 1) 0), 257) := by
    rw [← hH1]; exact mine_put_same (by simp only [lim_put, lim_add]; omega)
  have hX2 : HX.mine (H.len + 1 + 1) = some ([.int .i64 (n : Int), .slice (some ⟨H.len + 1, 0, none⟩) (2 * n) (2 * n + 1), .bool false, .int .i64 0, .bool false], 0) := by
    rw [← hH1, mine_put_ne (by omega)]; exact mine_put_same (by simp only [lim_add]; omega)
  have hX0 : HX.mine H.len = some ([.int .i64 0, .slice none 0 0, .bool false, .int .i64 0, .bool false], 0) := by
    rw [← hH1, mine_put_ne (by omega), mine_put_ne (by omega), mine_add_ne (by simp only [len_add]; omega), mine_add_ne (by simp only [len_add]; omega)]; exact mine_add_eq rfl hlim
  refine Gw_s fun K' hK' => G1_call (by simp only [gtarget, ↓GArg.ev, ↓evs, ↓Tr.get_set, Nat.reduceEqDiff, if_true, if_false, ↓reduceIte, Option.map_some]; rfl) (rlow_ok hS1.wf (n := 1) (k := 8) (by decide) (by decide)) fun r2 H2 hq2 => hK' _ _ ?_
  repeat' (first | refine zn ?_ | refine zK rfl ?_ | refine zP rfl ?_ | ((first | refine zm ?_ | skip); intro _; intros; simp (disch := first | exact zd | fail) only [↓yS, yT, gresults, gone, ↓reduceIte, Nat.reduceEqDiff, Nat.reduceAdd, Nat.reduceMul, reduceCtorEq, Int.reduceToNat, g22]; first | (rename_i K k; (first | refine yC (k _ _ ?_) | refine zg (k _ ?_)); clear k K) | (rename_i A B C D a b c d; (first | refine zx (a ?_) | refine zy (b ?_) | refine zz (fun hc => c ?_) (fun hc => d ?_) | refine zv (b ?_) | refine zw (a ?_)) <;> clear a b c d A B C D <;> try simp only [yL] at hc)) | refine zA ?_ | refine zB ?_ | refine zF ?_)
  refine Gw_s fun K' hK' => G1_call (by simp only [gtarget, ↓GArg.ev, ↓evs, ↓Tr.get_set, Nat.reduceEqDiff, if_true, if_false, ↓reduceIte, Option.map_some]; rfl) (rseal_ok hq2.same.wf hq2.rb (by rw [leB_length]; decide)) fun r3 H3 hq3 => hK' _ _ ?_
  have hO3 := hq3.weaken hq2.same
  have hsl3 := hO3.rb.isSl
  rw [hS12] at hsl3
  have hl1 := mine_lt hS1.wf hX1
  have hl2 := mine_lt hS1.wf hX2
  have hl0 := mine_lt hS1.wf hX0
  repeat' (first | refine zn ?_ | refine zK rfl ?_ | refine zP rfl ?_ | ((first | refine zm ?_ | skip); intro _; intros; simp (disch := first | exact zd | fail) only [↓yS, yT, gresults, gone, ↓reduceIte, Nat.reduceEqDiff, Nat.reduceAdd, Nat.reduceMul, reduceCtorEq, Int.reduceToNat, g22, hsl3.len]; first | (rename_i K k; (first | refine yC (k _ _ ?_) | refine zg (k _ ?_)); clear k K) | (rename_i A B C D a b c d; (first | refine zx (a ?_) | refine zy (b ?_) | refine zz (fun hc => c ?_) (fun hc => d ?_) | refine zv (b ?_) | refine zw (a ?_)) <;> clear a b c d A B C D <;> try simp only [yL] at hc)) | refine zA ?_ | refine zB ?_ | refine zF ?_)
  refine GW_loop (fun k fr H4 => ∃ (q : Nat), q ≤ 12 ∧ k = 12 - q ∧ fr.get 2 = some (ptr H.len) ∧ fr.get 4 = some (ptr (H.len + 1 + 1)) ∧ fr.get 23 = some (r3) ∧ fr.get 24 = some (.int .i64 12) ∧ fr.get 25 = some (.int .i64 q) ∧ But (fun z => z = H.len + 1) HX H4 ∧ H4.mine (H.len + 1) = some (u8s (183 :: fillRow (sealB (leB 8 1)) (2 * n - 1) q), 257) ∧ RB H4 r3 (sealB (leB 8 1))) ?_ 12 ?_
  case refine_2 =>
    refine ⟨0, by omega, by omega, ?_⟩
    simp only [↓yG, Nat.reduceEqDiff, ↓reduceIte, Int.natCast_add, Int.cast_ofNat_Int, Int.natCast_zero, true_and, and_true, Option.some.injEq, Value.int.injEq, ptr]
    exact ⟨But.of hO3.same, (hO3.same.mine hl1).trans hX1, hO3.rb⟩
  rintro k fr H4 ⟨q, hq, rfl, f2, f4, f23, f24, f25, hB, hm, hR⟩ J hJ
  have hm2 := (hB.mine hl2 (by omega)).trans hX2
  have hr2 := fun o => mine_rd (o := o) hm2
  have hbd : ∀ k : Nat, k < 12 → H4.rd (blk r3) (ofs r3 + k) = some (.int .u8 (sealB (leB 8 1))[k]!.toNat) := fun k hk => hR.read (by omega)
  have hfl := fillRow_len (l := sealB (leB 8 1)) (n := 2 * n - 1) (q := q) (by omega) (by omega)
  have hia : ∀ kd : IntKind, q < 12 → gia none 1 (.slice (some ⟨H.len + 1, 0, none⟩) (2 * n) (2 * n + 1)) (.int kd (1 + (q : Int))) = some (.pointer (some ⟨H.len + 1, q + 1, none⟩)) := fun kd h => by
    simp only [gia]
    rw [if_pos (by omega), show (1 + (q : Int)).toNat = q + 1 by omega]; simp
  repeat' (first | refine zn ?_ | refine zK rfl ?_ | refine zP rfl ?_ | ((first | refine zm ?_ | skip); intro _; intros; simp (disch := first | exact zd | fail) only [↓yS, yT, gresults, gone, ↓reduceIte, Nat.reduceEqDiff, Nat.reduceAdd, Nat.reduceMul, reduceCtorEq, Int.reduceToNat, g22, f2, f4, f23, f24, f25, hsl3.len, hsl3.ia, ptr, hr2, hbd, hia, hm, u8s_setb, List.set_cons_succ]; first | (rename_i K k; (first | refine yC (k _ _ ?_) | refine zg (k _ ?_)); clear k K) | (rename_i A B C D a b c d; (first | refine zx (a ?_) | refine zy (b ?_) | refine zz (fun hc => c ?_) (fun hc => d ?_) | refine zv (b ?_) | refine zw (a ?_)) <;> clear a b c d A B C D <;> try simp only [yL] at hc)) | refine zA ?_ | refine zB ?_ | refine zF ?_)
  case neg.refine_2.refine_2.refine_1.refine_1 =>
    rw [fillRow_next (by omega) (by omega)]
    refine hJ _ _ ⟨12 - (q + 1), by omega, q + 1, by omega, rfl, ?_⟩
    have hid : ∀ a ∈ idOf r3, a ≠ H.len + 1 := fun a ha e => by
      have := hq3.ids a ha
      have := hq2.same.len
      omega
    have hb2 : But (fun z => z = H.len + 1) H4 (H4.put (H.len + 1) (.cells (u8s (183 :: fillRow (sealB (leB 8 1)) (2 * n - 1) (q + 1))) 257 true)) := (But.refl (S := fun z => z = H.len + 1) hB.wf).put (i := H.len + 1) rfl (mine_lt hB.wf hm) _
    simp only [↓yG, Nat.reduceEqDiff, ↓reduceIte, Int.natCast_add, Int.cast_ofNat_Int, Int.natCast_zero, true_and, and_true, Option.some.injEq, Value.int.injEq, f2, f4, f23, f24, ptr]
    exact ⟨hB.trans hb2, mine_put_same (mine_obj hm).1, hR.but hB.wf hb2 hid⟩
  case neg.refine_2.refine_2.refine_1.refine_2 =>
    obtain rfl : q = 12 := by omega
    have hrn : H4.rdn (H.len + 1 + 1) 0 5 = some (.agg #[.int .i64 (n : Int), .slice (some ⟨H.len + 1, 0, none⟩) (2 * n) (2 * n + 1), .bool false, .int .i64 0, .bool false]) := by
      simp only [GHeap.rdn, mine_cs hm2, Option.bind_some]; rfl
    have hm0 := (hB.mine hl0 (by omega)).trans hX0
    repeat' (first | refine zn ?_ | refine zK rfl ?_ | refine zP rfl ?_ | ((first | refine zm ?_ | skip); intro _; intros; simp (disch := first | exact zd | fail) only [↓yS, yT, gresults, gone, ↓reduceIte, Nat.reduceEqDiff, Nat.reduceAdd, Nat.reduceMul, reduceCtorEq, Int.reduceToNat, g22, f2, f4, ptr, hrn, hm0, rp5]; first | (rename_i K k; (first | refine yC (k _ _ ?_) | refine zg (k _ ?_)); clear k K) | (rename_i A B C D a b c d; (first | refine zx (a ?_) | refine zy (b ?_) | refine zz (fun hc => c ?_) (fun hc => d ?_) | refine zv (b ?_) | refine zw (a ?_)) <;> clear a b c d A B C D <;> try simp only [yL] at hc)) | refine zA ?_ | refine zB ?_ | refine zF ?_)
    refine hPost _ _ ?_
    unfold RNewOut
    rw [if_neg (by omega)]
    have hnew : 183 :: fillRow (sealB (leB 8 1)) (2 * n - 1) 12 = newB n := by
      rw [fillRow, List.take_of_length_le (by omega), newB, show 2 * n - 1 - 12 = 2 * n - 13 by omega]; simp
    have hlen : (newB n).length = 2 * n := by rw [← hnew]; simp [fillRow_len (l := sealB (leB 8 1)) (n := 2 * n - 1) (q := 12) (by omega) (by omega)]; omega
    rw [hnew] at hm
    refine ⟨.slice (some ⟨H.len + 1, 0, none⟩) (2 * n) (2 * n + 1), ?_, ?_, ?_, ?_⟩
    · simp only [rmV, rmC, JM.size, Int.toNat_natCast, hlen]
      rw [show 2 * n / 2 = n by omega]
    · exact (hB.same hS1 (by intro k hk e; omega)).put (Nat.le_refl _) (mine_lt hB.wf hm0) _
    · rw [Int.toNat_natCast, hlen]
      exact ⟨by rw [u8s_length, hlen, Nat.mul_one], .inr ⟨H.len + 1, 2 * n + 1, rfl, .inr rfl, by rw [mine_put_ne (by omega)]; exact hm⟩⟩
    · exact .inr (Nat.le_succ _)
end Go.Gh
