/-
  captionertop, walked: fewer.
-/
import Derived.Test.YtjjcgaompnjbdaaDoorTrWF
namespace Go.Gh
set_option linter.unusedSimpArgs false
set_option linter.unusedVariables false
set_option maxHeartbeats 4000000
open Go.RowKit
set_option maxRecDepth 4000

theorem flatMap_take {α : Type} {f : α → List Value} {s : Nat} (hf : ∀ x, (f x).length = s) : ∀ (l : List α) (m : Nat), (l.flatMap f).take ((l.take m).length * s) = (l.take m).flatMap f
  | [], m => by simp
  | x :: l, 0 => by simp
  | x :: l, m + 1 => by
    have ih := flatMap_take hf l m
    rw [List.take_succ_cons, List.length_cons, List.flatMap_cons, List.flatMap_cons, Nat.add_mul, Nat.one_mul, Nat.add_comm, ← hf x, List.take_length_add_append, hf x, ih]
theorem GArg1.preN {H : GHeap} {v : Value} {α : Type} {f : α → List Value} {s : Nat} {l : List α} (hf : ∀ x, (f x).length = s) (hv : GArg1 H s v l.length (l.flatMap f)) (m : Nat) :
    ∃ v', gslice (.sl s) H v none (some (.int .i64 (min (l.length : Int) m))) none = some v' ∧ GArg1 H s v' (l.take m).length ((l.take m).flatMap f) := by
  obtain ⟨v', e1, e2, _⟩ := hv.cut (k := .i64) (a := 0) (b := min (l.length : Int) m) (Int.le_refl 0) (by omega) (by omega)
  refine ⟨v', ?_, ?_⟩
  · rw [gslice_lo0 (k := .i64) (by intro x hx; cases hx; exact ⟨_, _, rfl⟩)]; exact e1
  have h20 : (min (l.length : Int) m).toNat - (0 : Int).toNat = (l.take m).length := by rw [List.length_take]; omega
  rw [h20] at e2
  have e4 : ((l.flatMap f).drop ((0 : Int).toNat * s)).take ((l.take m).length * s) = (l.take m).flatMap f := by
    rw [show (0 : Int).toNat * s = 0 by simp, List.drop_zero, flatMap_take hf]
  rw [e4] at e2
  exact e2
theorem fewer_ok {K H : GHeap} (hwK : K.wf) (hKH : Same K H) {d : Dc} (hd : DcR K d) (hs : SmD d) : ∃ r H', gev G 5 [dcV d] H = some (r, H') ∧ ∃ x, r = dcV x ∧ DcR K x ∧ SmD x ∧ Same H H' := by
  have hw := hKH.wf
  refine gev_GW (f := 5) rfl fun Post hPost => ?_
  have hlim := hw.1
  have fd := dc_cflat hd
  simp only [frameOf, Nat.reduceAdd]
  obtain ⟨H1, hH1⟩ : ∃ H1, H1 = (H.add (some (.cells (dcC d) 0 true))).add (some (.cells z8 0 true)) := ⟨_, rfl⟩
  have hz8 : [Value.string ⟨#[]⟩, .string ⟨#[]⟩, .int .u8 0, .bool false, .int .i64 0, .slice none 0 0, .slice none 0 0, .slice none 0 0] = z8 := rfl
  have hS1 : Same H H1 := hH1 ▸ ((Same.refl hw).add _).add _
  have hl1 : H1.len = H.len + 2 := by rw [hH1]; simp only [len_add]
  have hw1 := hS1.wf
  have m0 : H1.mine H.len = some (dcC d, 0) := by rw [hH1, mine_add_ne (by rw [len_add]; omega), mine_add_eq rfl hw.1]
  have m1 : H1.mine (H.len + 1) = some (z8, 0) := by rw [hH1, mine_add_eq (by rw [len_add]) (by rw [lim_add]; omega)]
  have q5 : H1.rd H.len 5 = some d.rv := mine_rd m0
  have q6 : H1.rd H.len 6 = some d.ev := mine_rd m0
  have q7 : H1.rd H.len 7 = some d.cv := mine_rd m0
  obtain ⟨ev, e1, hE⟩ := GArg1.preN evC_len hd.ev.rd 5
  obtain ⟨cv, e2, hC⟩ := GArg1.preN cmC_len hd.cm 5
  obtain ⟨rv, e3, hR⟩ := GArg1.preN rgC_len hd.rg 8
  have e1 : gslice (.sl 7) H1 d.ev none (some (.int .i64 (min (d.E.length : Int) 5))) none = some ev := by rw [hd.ev.rd.gslice_same hwK (hKH.trans hS1)]; exact e1
  have e2 : gslice (.sl 8) H1 d.cv none (some (.int .i64 (min (d.C.length : Int) 5))) none = some cv := by rw [hd.cm.gslice_same hwK (hKH.trans hS1)]; exact e2
  have e3 : gslice (.sl 7) H1 d.rv none (some (.int .i64 (min (d.R.length : Int) 8))) none = some rv := by rw [hd.rg.gslice_same hwK (hKH.trans hS1)]; exact e3
  have l1 := hd.ev.rd.rd.isSl.len
  have l2 := hd.cm.rd.isSl.len
  have l3 := hd.rg.rd.isSl.len
  obtain ⟨x, hx⟩ : ∃ x : Dc, x = { d with ev := ev, E := d.E.take 5, cv := cv, C := d.C.take 5, rv := rv, R := d.R.take 8 } := ⟨_, rfl⟩
  have s1 : gst none H1 (.pointer (some ⟨H.len, 6, none⟩)) ev = some (H1.put H.len (.cells (dcC { d with ev := ev }) 0 true)) := by
    rw [gst_1, m0, Option.bind_some, gset_ok (by simp [dcC]) hE.flat]; rfl
  have n1 : (H1.put H.len (.cells (dcC { d with ev := ev }) 0 true)).mine H.len = some (dcC { d with ev := ev }, 0) := mine_put_same (mine_obj m0).1
  have s2 : gst none (H1.put H.len (.cells (dcC { d with ev := ev }) 0 true)) (.pointer (some ⟨H.len, 7, none⟩)) cv = some (H1.put H.len (.cells (dcC { d with ev := ev, cv := cv }) 0 true)) := by
    rw [gst_1, n1, Option.bind_some, gset_ok (by simp [dcC]) hC.flat, Option.bind_some, put_put]; rfl
  have n2 : (H1.put H.len (.cells (dcC { d with ev := ev, cv := cv }) 0 true)).mine H.len = some (dcC { d with ev := ev, cv := cv }, 0) := mine_put_same (mine_obj m0).1
  have s3 : gst none (H1.put H.len (.cells (dcC { d with ev := ev, cv := cv }) 0 true)) (.pointer (some ⟨H.len, 5, none⟩)) rv = some (H1.put H.len (.cells (dcC x) 0 true)) := by
    rw [gst_1, n2, Option.bind_some, gset_ok (by simp [dcC]) hR.flat, Option.bind_some, put_put, hx]; rfl
  have n3 : (H1.put H.len (.cells (dcC x) 0 true)).mine (H.len + 1) = some (z8, 0) := (mine_put_ne (by omega)).trans m1
  have r3 : (H1.put H.len (.cells (dcC x) 0 true)).rdn H.len 0 8 = some (dcV x) := rdn_dcp
  have gs8 : gsetn z8 0 8 (dcV x) = some (dcC x) := gsetn_all rfl rfl (by
    have f1 := hE.flat
    have f2 := hC.flat
    have f3 := hR.flat
    rw [hx]; simp [flatV_int, flatV_str, flatV_bool, f1, f2, f3])
  have hw2 : (H1.put H.len (.cells (dcC x) 0 true)).len = H.len + 2 := by rw [len_put, hl1]
  have hSf : Same H ((H1.put H.len (.cells (dcC x) 0 true)).put (H.len + 1) (.cells (dcC x) 0 true)) := (hS1.put (Nat.le_refl _) (by omega) _).put (by omega) (by omega) _
  repeat' (first | refine zn ?_ | refine zK rfl ?_ | refine zP rfl ?_ | ((first | refine zm ?_ | skip); intro _; intros; simp (disch := first | exact zd | fail) only [↓yS, yT, gresults, gone, ↓reduceIte, Nat.reduceEqDiff, Nat.reduceAdd, Nat.reduceMul, reduceCtorEq, Int.reduceToNat, g5, RDc, fd, hz8, hH1.symm, q5, q6, q7, l1, l2, l3, e1, e2, e3, s1, s2, s3, n3, r3, gs8]; first | (rename_i K k; (first | refine yC (k _ _ ?_) | refine zg (k _ ?_)); clear k K) | (rename_i A B C D a b c d; (first | refine zx (a ?_) | refine zy (b ?_) | refine zz (fun hc => c ?_) (fun hc => d ?_) | refine zv (b ?_) | refine zw (a ?_)) <;> clear a b c d A B C D <;> try simp only [yL] at hc)) | refine zA ?_ | refine zB ?_ | refine zF ?_)
  refine hPost _ _ ⟨x, rfl, ?_, ?_, hSf⟩
  · rw [hx]
    exact ⟨hR, ⟨hE, fun e he => hd.ev.rows e (List.mem_of_mem_take he)⟩, hC⟩
  · rw [hx]
    have t1 := List.length_take_le 8 d.R
    have t2 := List.length_take_le 5 d.E
    have t3 := List.length_take_le 5 d.C
    exact ⟨hs.ti, hs.la, hs.rt, ⟨by show (d.R.take 8).length ≤ _; omega, fun r hr => hs.R.2 r (List.mem_of_mem_take hr)⟩, ⟨by show (d.E.take 5).length ≤ _; omega, fun r hr => hs.E.2 r (List.mem_of_mem_take hr)⟩, ⟨by show (d.C.take 5).length ≤ _; omega, fun r hr => hs.C.2 r (List.mem_of_mem_take hr)⟩⟩
end Go.Gh
