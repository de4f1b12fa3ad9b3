/-
  The memory, walked: NewMemory, Flip, Bytes, Clone.
-/
import Derived.Test.YtbficpmoppailaaJnW2
namespace Go.Gh
set_option linter.unusedSimpArgs false
set_option linter.unusedVariables false
set_option maxHeartbeats 4000000
open Go.RowKit
set_option maxRecDepth 4000

theorem gcopy_rb {H : GHeap} {x : Value} {b d : List UInt8} {j o n gc u : Nat} (hx : RB H x b) (hm : H.mine j = some (u8s d, u)) (hn : b.length ≤ n) (hl : o + b.length ≤ d.length) (hb : 0 < b.length) :
    gcopy 1 H (.slice (some ⟨j, o, none⟩) n gc) x = some (.int .i64 (b.length : Int), H.put j (.cells (u8s (d.take o ++ b ++ d.drop (o + b.length))) u true)) := by
  have h1 := hx.count
  have h2 := hx.cells
  have h3 : min b.length n = b.length := Nat.min_eq_left hn
  have h4 : ¬ b.length = 0 := by omega
  simp only [gcopy, h1, Option.bind_some, h3, h2, Nat.mul_one, hm, u8s_length]
  rw [if_neg h4]
  rw [if_pos ⟨hl, trivial⟩]
  simp only [u8s_append, u8s_take, u8s_drop]
/-- what NewMemory returns -/
def NewOut (H H' : GHeap) (r : Value) (size : Int) : Prop :=
  if size < 64 ∨ 8388608 < size then r = .tuple #[.pointer none, .int .i64 2] ∧ H' = H
  else ∃ i j, r = .tuple #[ptr i, .int .i64 0] ∧ MemAt H' i j (2 * size.toNat + 1) ⟨newB size.toNat, false, 0, false⟩ ∧ Same H H' ∧ H.len ≤ i ∧ H.len ≤ j
theorem newmem_ok {H : GHeap} (hw : H.wf) {size : Int} (_hs : -9223372036854775808 ≤ size ∧ size ≤ 9223372036854775807) :
    ∃ r H', gev G 11 [.int .i64 size] H = some (r, H') ∧ NewOut H H' r size := by
  refine gev_GW (f := 11) rfl fun Post hPost => ?_
  have hlim := hw.1
  simp only [frameOf, Nat.reduceAdd]
  repeat' (first | refine zn ?_ | refine zK rfl ?_ | refine zP rfl ?_ | ((first | refine zm ?_ | skip); intro _; intros; simp (disch := first | exact zd | fail) only [↓yS, yT, gresults, gone, ↓reduceIte, Nat.reduceEqDiff, Nat.reduceAdd, Nat.reduceMul, reduceCtorEq, Int.reduceToNat, g11]; first | (rename_i K k; (first | refine yC (k _ _ ?_) | refine zg (k _ ?_)); clear k K) | (rename_i A B C D a b c d; (first | refine zx (a ?_) | refine zy (b ?_) | refine zz (fun hc => c ?_) (fun hc => d ?_) | refine zv (b ?_) | refine zw (a ?_)) <;> clear a b c d A B C D <;> try simp only [yL] at hc)) | refine zA ?_ | refine zB ?_ | refine zF ?_)
  case refine_1 => exact hPost _ _ (by unfold NewOut; rw [if_pos (.inl hc)]; exact ⟨rfl, rfl⟩)
  case refine_2.refine_1 => exact hPost _ _ (by unfold NewOut; rw [if_pos (.inr hc)]; exact ⟨rfl, rfl⟩)
  case refine_2.refine_2 h1 =>
  obtain ⟨n, rfl⟩ : ∃ n : Nat, size = n := ⟨size.toNat, by omega⟩
  rw [show (2 * (n : Int)).toNat = 2 * n by omega]
  rw [show (u8s (List.replicate (2 * n) 0)).set 0 (.int .u8 183) = u8s ((List.replicate (2 * n) 0).set 0 183) from u8s_setb (b := 183)]
  generalize hd0 : (List.replicate (2 * n) (0 : UInt8)).set 0 183 = d0
  have hdl : d0.length = 2 * n := by rw [← hd0]; simp
  generalize hH1 : (((H.add (some (.cells (u8s (List.replicate (2 * n) 0)) 257 true))).add (some (.cells [.slice (some ⟨H.len, 0, none⟩) (2 * n) (2 * n + 1), .bool false, .int .i64 0, .bool false] 0 true))).put H.len (.cells (u8s d0) 257 true)) = H1
  have hS1 : Same H H1 := by rw [← hH1]; exact (((Same.refl hw).add _).add _).put (Nat.le_refl _) (by simp only [len_add]; omega) _
  have hl1 : H1.len = H.len + 2 := by rw [← hH1]; rfl
  have hM1 : MemAt H1 (H.len + 1) H.len (2 * n + 1) ⟨d0, false, 0, false⟩ := by
    refine ⟨?_, ?_, by omega, .inr (by rw [hdl]), by simp only [hdl]; omega, by simp only [hdl]; omega⟩
    · rw [← hH1, mine_put_ne (by omega), mine_add_eq len_add (by rw [lim_add]; omega)]
      simp only [memCells, datv, hdl]
    · rw [← hH1, mine_put_same (by rw [lim_add, lim_add]; exact hw.1)]
  have hs1 : gslice (.sl 1) H1 (.slice (some ⟨H.len, 0, none⟩) (2 * n) (2 * n + 1)) (some (.int .i64 1)) none none = some (.slice (some ⟨H.len, 1, none⟩) (2 * n - 1) (2 * n)) := by
    have hu : H1.unit H.len = some 257 := by unfold GHeap.unit; rw [(mine_obj hM1.dat).2]; rfl
    simp only [gslice, hu]
    rw [if_pos (.inr rfl)]
    have : gbounds (2 * n) (2 * n) (some (.int .i64 1)) none = some (1, 2 * n) := by
      simp only [gbounds]
      rw [if_pos (by omega)]; rfl
    simp [this]
  repeat' (first | refine zn ?_ | refine zK rfl ?_ | refine zP rfl ?_ | ((first | refine zm ?_ | skip); intro _; intros; simp (disch := first | exact zd | fail) only [↓yS, yT, gresults, gone, ↓reduceIte, Nat.reduceEqDiff, Nat.reduceAdd, Nat.reduceMul, reduceCtorEq, Int.reduceToNat, g11, hs1]; first | (rename_i K k; (first | refine yC (k _ _ ?_) | refine zg (k _ ?_)); clear k K) | (rename_i A B C D a b c d; (first | refine zx (a ?_) | refine zy (b ?_) | refine zz (fun hc => c ?_) (fun hc => d ?_) | refine zv (b ?_) | refine zw (a ?_)) <;> clear a b c d A B C D <;> try simp only [yL] at hc)) | refine zA ?_ | refine zB ?_ | refine zF ?_)
  refine Gw_s fun K' hK' => G1_callM (by simp only [gtarget, ↓GArg.ev, ↓evs, ↓Tr.get_set, Nat.reduceEqDiff, if_true, if_false, ↓reduceIte, Option.map_some]; rfl) (low_ok (wf_up hS1.wf) (n := 1) (k := 8) (by decide) (by decide)) fun r2 H2 hq2 => hK' _ _ ?_
  repeat' (first | refine zn ?_ | refine zK rfl ?_ | refine zP rfl ?_ | ((first | refine zm ?_ | skip); intro _; intros; simp (disch := first | exact zd | fail) only [↓yS, yT, gresults, gone, ↓reduceIte, Nat.reduceEqDiff, Nat.reduceAdd, Nat.reduceMul, reduceCtorEq, Int.reduceToNat, g11]; first | (rename_i K k; (first | refine yC (k _ _ ?_) | refine zg (k _ ?_)); clear k K) | (rename_i A B C D a b c d; (first | refine zx (a ?_) | refine zy (b ?_) | refine zz (fun hc => c ?_) (fun hc => d ?_) | refine zv (b ?_) | refine zw (a ?_)) <;> clear a b c d A B C D <;> try simp only [yL] at hc)) | refine zA ?_ | refine zB ?_ | refine zF ?_)
  have hO2 := hq2.down hS1.wf
  refine Gw_s fun K' hK' => G1_callM (by simp only [gtarget, ↓GArg.ev, ↓evs, ↓Tr.get_set, Nat.reduceEqDiff, if_true, if_false, ↓reduceIte, Option.map_some]; rfl) (seal_ok (wf_up hO2.same.wf) hO2.rb.up (by simp [leB_length])) fun r3 H3 hq3 => hK' _ _ ?_
  have hO3 := hq3.down hO2.same.wf
  generalize hH4 : H3.down (H2.down H1.lim).lim = H4 at hO3
  have hS4 := hO2.same.trans hO3.same
  have hM4 := hM1.later hS1.wf hS4
  have hsl : (sealB (leB 8 1)).length = 12 := by rw [sealB_length, leB_length]
  have hcp := gcopy_rb (o := 1) (n := 2 * n - 1) (gc := 2 * n) hO3.rb hM4.dat (by rw [hsl]; omega) (by rw [hsl]; simp only [hdl]; omega) (by rw [hsl]; omega)
  repeat' (first | refine zn ?_ | refine zK rfl ?_ | refine zP rfl ?_ | ((first | refine zm ?_ | skip); intro _; intros; simp (disch := first | exact zd | fail) only [↓yS, yT, gresults, gone, ↓reduceIte, Nat.reduceEqDiff, Nat.reduceAdd, Nat.reduceMul, reduceCtorEq, Int.reduceToNat, g11, hcp]; first | (rename_i K k; (first | refine yC (k _ _ ?_) | refine zg (k _ ?_)); clear k K) | (rename_i A B C D a b c d; (first | refine zx (a ?_) | refine zy (b ?_) | refine zz (fun hc => c ?_) (fun hc => d ?_) | refine zv (b ?_) | refine zw (a ?_)) <;> clear a b c d A B C D <;> try simp only [yL] at hc)) | refine zA ?_ | refine zB ?_ | refine zF ?_)
  refine hPost _ _ ?_
  unfold NewOut
  rw [if_neg (by omega)]
  have hnew : (⟨d0, false, 0, false⟩ : JM).data.take 1 ++ sealB (leB 8 1) ++ (⟨d0, false, 0, false⟩ : JM).data.drop (1 + (sealB (leB 8 1)).length) = newB n := by
    rw [hsl, ← hd0]
    obtain ⟨q, hq⟩ : ∃ q, 2 * n = q + 1 := ⟨2 * n - 1, by omega⟩
    simp only [hq, List.replicate_succ, List.set_cons_zero, List.take_succ_cons, List.take_zero, newB, List.drop_succ_cons, List.drop_replicate]
    simp
  have hlen : (newB n).length = 2 * n := by
    simp [newB, sealB_length, leB_length]; omega
  rw [hnew]
  have hS5 := hS1.trans hS4
  refine ⟨H.len + 1, H.len, rfl, ⟨?_, ?_, by omega, .inr (by rw [Int.toNat_natCast, hlen]), by simp only [Int.toNat_natCast, hlen]; omega, by simp only [Int.toNat_natCast, hlen]; omega⟩, hS5.put (Nat.le_refl _) (mine_lt hS4.wf hM4.dat) _, by omega, Nat.le_refl _⟩
  · rw [mine_put_ne (by omega), hM4.obj]
    simp only [memCells, hdl, hlen, Int.toNat_natCast]
  · exact mine_put_same (mine_obj hM4.dat).1
/-- a bit that is flipped -/
def flipOk (m : JM) (bit : Int) : Prop := 0 ≤ bit ∧ bit < 8 * m.data.length
instance (m : JM) (bit : Int) : Decidable (flipOk m bit) := by unfold flipOk; infer_instance
def flipJ (m : JM) (bit : Int) : JM := if flipOk m bit then {m with data := xorBit m.data bit.toNat} else m
def flipE (m : JM) (bit : Int) : Int := if flipOk m bit then 0 else 2
theorem flip_ok {H : GHeap} (hw : H.wf) {i j gc : Nat} {m : JM} (h : MemAt H i j gc m) {bit : Int} (_hb : -9223372036854775808 ≤ bit ∧ bit ≤ 9223372036854775807) :
    ∃ r H', gev G 25 [ptr i, .int .i64 bit] H = some (r, H') ∧ (r = .int .i64 (flipE m bit) ∧ MemAt H' i j gc (flipJ m bit) ∧ But (mo i j) H H') := by
  refine gev_GW (f := 25) rfl fun Post hPost => ?_
  have hbig := h.big
  have hrd := h.rd
  have hdt := h.dat
  have hrd2 := fun o => mine_rd (o := o) hdt
  have hsl := h.isSl
  simp only [frameOf, Nat.reduceAdd, ptr]
  by_cases hok : flipOk m bit
  · obtain ⟨h1, h2⟩ := id hok
    obtain ⟨b, rfl⟩ : ∃ b : Nat, bit = b := ⟨bit.toNat, by omega⟩
    have q1 : ∀ e, gbin .quo e (.int .i64 (b : Int)) (.int .i64 8) = some (.int .i64 ((b / 8 : Nat) : Int)) := fun e => gb_quoN (b := 8) (by decide) (by omega)
    have q2 : ∀ e, gbin .rem e (.int .i64 (b : Int)) (.int .i64 8) = some (.int .i64 ((b % 8 : Nat) : Int)) := fun e => gb_remN (b := 8) (by decide)
    have q3 := fun e k' => shl1_8 (e := e) (k' := k') (s := b % 8) (by omega)
    have q4 := fun e => gb_xor8 (e := e) (a := m.data[b / 8]!) (b := UInt8.ofNat (2 ^ (b % 8)))
    have q5 : ∀ kd, gia none 1 (datv j m.data.length gc) (.int kd ((b / 8 : Nat) : Int)) = some (.pointer (some ⟨j, b / 8, none⟩)) := fun kd => by
      rw [hsl.ia (by omega) (by omega), Int.toNat_natCast]; simp [blk, ofs, datv]
    repeat' (first | (exfalso; omega) | refine zn ?_ | refine zK rfl ?_ | refine zP rfl ?_ | ((first | refine zm ?_ | skip); intro _; intros; simp (disch := first | exact zd | fail) only [↓yS, yT, gresults, gone, ↓reduceIte, Nat.reduceEqDiff, Nat.reduceAdd, Nat.reduceMul, reduceCtorEq, Int.reduceToNat, g25, hrd, hrd2, memCells, hsl.len, q1, q2, q3, q4, q5, hdt, u8s_setb]; first | (rename_i K k; (first | refine yC (k _ _ ?_) | refine zg (k _ ?_)); clear k K) | (rename_i A B C D a b c d; (first | refine zx (a ?_) | refine zy (b ?_) | refine zz (fun hc => c ?_) (fun hc => d ?_) | refine zv (b ?_) | refine zw (a ?_)) <;> clear a b c d A B C D <;> try simp only [yL] at hc)) | refine zA ?_ | refine zB ?_ | refine zF ?_)
    refine hPost _ _ ?_
    rw [flipE, flipJ, if_pos hok, if_pos hok, Int.toNat_natCast]
    refine ⟨rfl, ⟨?_, mine_put_same (mine_obj hdt).1, h.ne, by simp only [xorBit_length]; exact h.cap, by simp only [xorBit_length]; exact h.big, by simp only [xorBit_length]; exact h.low⟩, (But.refl hw).put (.inr rfl) (mine_lt hw hdt) _⟩
    rw [mine_put_ne (Ne.symm h.ne), h.obj]
    simp only [memCells, xorBit_length]
  · have hno : bit < 0 ∨ 8 * (m.data.length : Int) ≤ bit := by
      by_cases h1 : bit < 0
      · exact .inl h1
      · exact .inr (Int.not_lt.1 fun h2 => hok ⟨by omega, h2⟩)
    repeat' (first | (exfalso; omega) | refine zn ?_ | refine zK rfl ?_ | refine zP rfl ?_ | ((first | refine zm ?_ | skip); intro _; intros; simp (disch := first | exact zd | fail) only [↓yS, yT, gresults, gone, ↓reduceIte, Nat.reduceEqDiff, Nat.reduceAdd, Nat.reduceMul, reduceCtorEq, Int.reduceToNat, g25, hrd, memCells, hsl.len]; first | (rename_i K k; (first | refine yC (k _ _ ?_) | refine zg (k _ ?_)); clear k K) | (rename_i A B C D a b c d; (first | refine zx (a ?_) | refine zy (b ?_) | refine zz (fun hc => c ?_) (fun hc => d ?_) | refine zv (b ?_) | refine zw (a ?_)) <;> clear a b c d A B C D <;> try simp only [yL] at hc)) | refine zA ?_ | refine zB ?_ | refine zF ?_)
    all_goals
      refine hPost _ _ ?_
      rw [flipE, flipJ, if_neg hok, if_neg hok]
      exact ⟨rfl, h, But.refl hw⟩
theorem bytes_ok' {H : GHeap} (hw : H.wf) {i j gc : Nat} {m : JM} (h : MemAt H i j gc m) :
    ∃ r H', gev G 23 [ptr i] H = some (r, H') ∧ OB H H' r m.data := by
  refine gev_GW (f := 23) rfl fun Post hPost => ?_
  have hbig := h.big
  have hrd := h.rd
  simp only [frameOf, Nat.reduceAdd, ptr]
  repeat' (first | refine zn ?_ | refine zK rfl ?_ | refine zP rfl ?_ | ((first | refine zm ?_ | skip); intro _; intros; simp (disch := first | exact zd | fail) only [↓yS, yT, gresults, gone, ↓reduceIte, Nat.reduceEqDiff, Nat.reduceAdd, Nat.reduceMul, reduceCtorEq, Int.reduceToNat, g23, hrd, memCells]; first | (rename_i K k; (first | refine yC (k _ _ ?_) | refine zg (k _ ?_)); clear k K) | (rename_i A B C D a b c d; (first | refine zx (a ?_) | refine zy (b ?_) | refine zz (fun hc => c ?_) (fun hc => d ?_) | refine zv (b ?_) | refine zw (a ?_)) <;> clear a b c d A B C D <;> try simp only [yL] at hc)) | refine zA ?_ | refine zB ?_ | refine zF ?_)
  refine Gw_s fun K' hK' => G1_call (by simp only [gtarget, ↓GArg.ev, ↓evs, ↓Tr.get_set, Nat.reduceEqDiff, if_true, if_false, ↓reduceIte, Option.map_some]; rfl) (clone_ok hw (h.rb hw) hbig) fun r2 H2 hq => hK' _ _ ?_
  repeat' (first | refine zn ?_ | refine zK rfl ?_ | refine zP rfl ?_ | ((first | refine zm ?_ | skip); intro _; intros; simp (disch := first | exact zd | fail) only [↓yS, yT, gresults, gone, ↓reduceIte, Nat.reduceEqDiff, Nat.reduceAdd, Nat.reduceMul, reduceCtorEq, Int.reduceToNat, g23]; first | (rename_i K k; (first | refine yC (k _ _ ?_) | refine zg (k _ ?_)); clear k K) | (rename_i A B C D a b c d; (first | refine zx (a ?_) | refine zy (b ?_) | refine zz (fun hc => c ?_) (fun hc => d ?_) | refine zv (b ?_) | refine zw (a ?_)) <;> clear a b c d A B C D <;> try simp only [yL] at hc)) | refine zA ?_ | refine zB ?_ | refine zF ?_)
  exact hPost _ _ hq
theorem mclone_ok {H : GHeap} (hw : H.wf) {i j gc : Nat} {m : JM} (h : MemAt H i j gc m) :
    ∃ r H', gev G 34 [ptr i] H = some (r, H') ∧ ∃ i2 j2 gc2, r = ptr i2 ∧ MemAt H' i2 j2 gc2 m ∧ Same H H' ∧ H.len ≤ i2 ∧ H.len ≤ j2 := by
  refine gev_GW (f := 34) rfl fun Post hPost => ?_
  have hbig := h.big
  have hrd := h.rd
  have hob := h.obj
  have hlt := mine_lt hw hob
  have hlim := hw.1
  have hrn : H.rdn i 0 4 = some (.agg (memCells j gc m).toArray) := by
    simp only [GHeap.rdn, mine_cs hob, Option.bind_some]; rfl
  simp only [frameOf, Nat.reduceAdd, ptr]
  repeat' (first | refine zn ?_ | refine zK rfl ?_ | refine zP rfl ?_ | ((first | refine zm ?_ | skip); intro _; intros; simp (disch := first | exact zd | fail) only [↓yS, yT, gresults, gone, ↓reduceIte, Nat.reduceEqDiff, Nat.reduceAdd, Nat.reduceMul, reduceCtorEq, Int.reduceToNat, g34, hrd, hrn, memCells, datv]; first | (rename_i K k; (first | refine yC (k _ _ ?_) | refine zg (k _ ?_)); clear k K) | (rename_i A B C D a b c d; (first | refine zx (a ?_) | refine zy (b ?_) | refine zz (fun hc => c ?_) (fun hc => d ?_) | refine zv (b ?_) | refine zw (a ?_)) <;> clear a b c d A B C D <;> try simp only [yL] at hc)) | refine zA ?_ | refine zB ?_ | refine zF ?_)
  have hS1 := (Same.refl hw).new (.cells [.slice none 0 0, .bool false, .int .i64 0, .bool false] 0 true) (.cells (memCells j gc m) 0 true)
  simp only [memCells, datv] at hS1
  have hR := (h.rb hw).same_ hw hS1
  generalize hH1 : (H.add (some (.cells [.slice none 0 0, .bool false, .int .i64 0, .bool false] 0 true))).put H.len (.cells [.slice (some ⟨j, 0, none⟩) m.data.length gc, .bool m.armed, .int .i64 m.left, .bool m.off] 0 true) = H1 at hS1 hR
  have hm1 : H1.mine H.len = some ([.slice (some ⟨j, 0, none⟩) m.data.length gc, .bool m.armed, .int .i64 m.left, .bool m.off], 0) := by
    rw [← hH1]; exact mine_put_same (by rw [lim_add]; exact hlim)
  refine Gw_s fun K' hK' => G1_call (by simp only [gtarget, ↓GArg.ev, ↓evs, ↓Tr.get_set, Nat.reduceEqDiff, if_true, if_false, ↓reduceIte, Option.map_some]; rfl) (clone_ok hS1.wf hR hbig) fun r2 H2 hq => hK' _ _ ?_
  have hlt1 := mine_lt hS1.wf hm1
  have hm2 := (hq.same.mine hlt1).trans hm1
  have hlow := h.low
  obtain ⟨j2, gc2, rfl, hg2, hd2⟩ : ∃ j2 gc2, r2 = .slice (some ⟨j2, 0, none⟩) m.data.length gc2 ∧ (gc2 = 0 ∨ gc2 = m.data.length + 1) ∧ H2.mine j2 = some (u8s m.data, 257) := by
    rcases hq.own.at_ with ⟨_, e⟩ | ⟨j2, gc2, e, hg, hm⟩
    · omega
    · exact ⟨j2, gc2, e, hg, hm⟩
  have hyj : H1.len ≤ j2 := by
    rcases hq.young with e | e
    · cases e
    · exact e
  repeat' (first | refine zn ?_ | refine zK rfl ?_ | refine zP rfl ?_ | ((first | refine zm ?_ | skip); intro _; intros; simp (disch := first | exact zd | fail) only [↓yS, yT, gresults, gone, ↓reduceIte, Nat.reduceEqDiff, Nat.reduceAdd, Nat.reduceMul, reduceCtorEq, Int.reduceToNat, g34, hm2]; first | (rename_i K k; (first | refine yC (k _ _ ?_) | refine zg (k _ ?_)); clear k K) | (rename_i A B C D a b c d; (first | refine zx (a ?_) | refine zy (b ?_) | refine zz (fun hc => c ?_) (fun hc => d ?_) | refine zv (b ?_) | refine zw (a ?_)) <;> clear a b c d A B C D <;> try simp only [yL] at hc)) | refine zA ?_ | refine zB ?_ | refine zF ?_)
  refine hPost _ _ ⟨H.len, j2, gc2, rfl, ⟨mine_put_same (mine_obj hm2).1, ?_, by omega, hg2, hbig, hlow⟩, (hS1.trans hq.same).put (Nat.le_refl _) (mine_lt hq.same.wf hm2) _, Nat.le_refl _, by have := hS1.len; omega⟩
  rw [mine_put_ne (by omega)]; exact hd2
end Go.Gh
