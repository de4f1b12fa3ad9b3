/-
  The law JournalPlays: what the walk keeps.
-/
import Derived.Test.YtbficpmoppailaaJnQ
namespace Go.Gh
set_option linter.unusedSimpArgs false
set_option linter.unusedVariables false
set_option maxHeartbeats 4000000
open Go.RowKit
set_option maxRecDepth 4000

/-! ### acts as an argument -/
structure AcE where
  t : Int
  n : Int
  v : Value
  p : List UInt8
instance : Inhabited AcE := ⟨⟨0, 0, .slice none 0 0, []⟩⟩
def acC (x : AcE) : List Value := [.int .u8 x.t, .int .i64 x.n, x.v]
theorem acC_len (x : AcE) : (acC x).length = 3 := rfl
def acShp : Shp := .st [.int .u8, .int .i64, .sl (.int .u8)]
def AcOk (H : GHeap) (x : AcE) : Prop := RB H x.v x.p ∧ x.p.length ≤ maxLen ∧ (Lit.int .u8 x.t).wf = true ∧ (Lit.int .i64 x.n).wf = true
theorem ac_of {H : GHeap} {gv : Value} (h : RdA H (.sl acShp) gv) : ∃ L : List AcE, GArg1 H 3 gv L.length (L.flatMap acC) ∧ (∀ x ∈ L, AcOk H x) ∧ L.length ≤ maxLen := by
  obtain ⟨l, k1, k2, k3⟩ := h.sl_ (f := fun x : Int × Int × Value => [.int .u8 x.1, .int .i64 x.2.1, x.2.2]) fun r hr => by
    simp only [acShp, RdS, RdSs] at hr
    obtain ⟨_, _, rfl, ⟨t, rfl, _⟩, _, _, rfl, ⟨n, rfl, _⟩, _, _, rfl, ⟨v, rows, rfl, _⟩, rfl⟩ := hr
    exact ⟨(t, n, v), rfl⟩
  have key : ∀ l : List (Int × Int × Value), (∀ x ∈ l, RdS H acShp [.int .u8 x.1, .int .i64 x.2.1, x.2.2]) → ∃ L : List AcE, L.map (fun e => (e.t, e.n, e.v)) = l ∧ ∀ x ∈ L, AcOk H x := by
    intro l
    induction l with
    | nil => intro _; exact ⟨[], rfl, by simp⟩
    | cons x l ih =>
      intro hx
      obtain ⟨L, e, hL⟩ := ih fun y hy => hx y (by simp [hy])
      have h1 := hx x (by simp)
      simp only [acShp, RdS, RdSs] at h1
      obtain ⟨_, _, e1, ⟨t, rfl, ht⟩, _, _, rfl, ⟨n, rfl, hn⟩, _, _, rfl, h2, rfl⟩ := h1
      simp only [List.cons_append, List.nil_append, List.cons.injEq, List.append_nil, Value.int.injEq, true_and] at e1
      obtain ⟨rfl, rfl, e1⟩ := e1
      have h3 : RdA H (.sl (.int .u8)) x.2.2 := by
        obtain ⟨v, rows, e3, h4⟩ := h2
        rw [e3] at e1
        simp only [List.cons.injEq, and_true] at e1
        rw [e1]
        exact ⟨v, rows, by simp, h4⟩
      obtain ⟨p, hp1, hp2⟩ := h3.bytes_
      refine ⟨⟨x.1, x.2.1, x.2.2, p⟩ :: L, by simp [e], fun y hy => ?_⟩
      rcases List.mem_cons.1 hy with rfl | hy
      · exact ⟨hp1, hp2, ht, hn⟩
      · exact hL y hy
  obtain ⟨L, rfl, hL⟩ := key l k3
  refine ⟨L, ?_, hL, by simpa using k2.1⟩
  rw [List.length_map, List.flatMap_map] at k1
  exact k1

/-! ### calls in regions of open order -/
theorem off_up {H : GHeap} {i j gc : Nat} {m : JM} (h : MemAt H i j gc m) : ∃ r H', gev G 26 [ptr i] H.up = some (r, H') ∧ (r = .bool m.off ∧ H' = H.up) := by
  refine gev_GW (f := 26) rfl fun Post hPost => ?_
  have hrd : ∀ o, H.up.rd i o = (memCells j gc m)[o]? := h.rd
  simp only [frameOf, Nat.reduceAdd, ptr]
  repeat' (first | refine zn ?_ | refine zK rfl ?_ | refine zP rfl ?_ | ((first | refine zm ?_ | skip); intro _; intros; simp (disch := first | exact zd | fail) only [↓yS, yT, gresults, gone, ↓reduceIte, Nat.reduceEqDiff, Nat.reduceAdd, Nat.reduceMul, reduceCtorEq, Int.reduceToNat, g26, hrd, memCells]; first | (rename_i K k; (first | refine yC (k _ _ ?_) | refine zg (k _ ?_)); clear k K) | (rename_i A B C D a b c d; (first | refine zx (a ?_) | refine zy (b ?_) | refine zz (fun hc => c ?_) (fun hc => d ?_) | refine zv (b ?_) | refine zw (a ?_)) <;> clear a b c d A B C D <;> try simp only [yL] at hc)) | refine zA ?_ | refine zB ?_ | refine zF ?_)
  exact hPost _ _ ⟨rfl, rfl⟩
theorem bytes_upP {H : GHeap} (hw : H.wf) {i j gc : Nat} {m : JM} (h : MemAt H i j gc m) :
    ∃ r H', gev G 23 [ptr i] H.up = some (r, H') ∧ OB H.up H' r m.data := by
  refine gev_GW (f := 23) rfl fun Post hPost => ?_
  have hbig := h.big
  have hrd : ∀ o, H.up.rd i o = (memCells j gc m)[o]? := h.rd
  simp only [frameOf, Nat.reduceAdd, ptr]
  repeat' (first | refine zn ?_ | refine zK rfl ?_ | refine zP rfl ?_ | ((first | refine zm ?_ | skip); intro _; intros; simp (disch := first | exact zd | fail) only [↓yS, yT, gresults, gone, ↓reduceIte, Nat.reduceEqDiff, Nat.reduceAdd, Nat.reduceMul, reduceCtorEq, Int.reduceToNat, g23, hrd, memCells]; first | (rename_i K k; (first | refine yC (k _ _ ?_) | refine zg (k _ ?_)); clear k K) | (rename_i A B C D a b c d; (first | refine zx (a ?_) | refine zy (b ?_) | refine zz (fun hc => c ?_) (fun hc => d ?_) | refine zv (b ?_) | refine zw (a ?_)) <;> clear a b c d A B C D <;> try simp only [yL] at hc)) | refine zA ?_ | refine zB ?_ | refine zF ?_)
  refine Gw_s fun K' hK' => G1_call (by simp only [gtarget, ↓GArg.ev, ↓evs, ↓Tr.get_set, Nat.reduceEqDiff, if_true, if_false, ↓reduceIte, Option.map_some]; rfl) (clone_ok (wf_up hw) (h.rb hw).up hbig) fun r2 H2 hq => hK' _ _ ?_
  repeat' (first | refine zn ?_ | refine zK rfl ?_ | refine zP rfl ?_ | ((first | refine zm ?_ | skip); intro _; intros; simp (disch := first | exact zd | fail) only [↓yS, yT, gresults, gone, ↓reduceIte, Nat.reduceEqDiff, Nat.reduceAdd, Nat.reduceMul, reduceCtorEq, Int.reduceToNat, g23]; first | (rename_i K k; (first | refine yC (k _ _ ?_) | refine zg (k _ ?_)); clear k K) | (rename_i A B C D a b c d; (first | refine zx (a ?_) | refine zy (b ?_) | refine zz (fun hc => c ?_) (fun hc => d ?_) | refine zv (b ?_) | refine zw (a ?_)) <;> clear a b c d A B C D <;> try simp only [yL] at hc)) | refine zA ?_ | refine zB ?_ | refine zF ?_)
  exact hPost _ _ hq
theorem next_up {H : GHeap} {i k : Nat} {l : JL} (hL : LogAt H k i l) : ∃ r H', gev G 18 [ptr k] H.up = some (r, H') ∧ (r = .int .i64 (l.next : Int) ∧ H' = H.up) := by
  refine gev_GW (f := 18) rfl fun Post hPost => ?_
  have hL' : H.mine k = some (logCells (ptr i) l, 0) := hL
  have hrd : ∀ o, H.up.rd k o = (logCells (ptr i) l)[o]? := fun o => mine_rd (o := o) hL'
  simp only [frameOf, Nat.reduceAdd]
  repeat' (first | refine zn ?_ | refine zK rfl ?_ | refine zP rfl ?_ | ((first | refine zm ?_ | skip); intro _; intros; simp (disch := first | exact zd | fail) only [↓yS, yT, gresults, gone, ↓reduceIte, Nat.reduceEqDiff, Nat.reduceAdd, Nat.reduceMul, reduceCtorEq, Int.reduceToNat, g18, ptr, hrd, logCells]; first | (rename_i K k; (first | refine yC (k _ _ ?_) | refine zg (k _ ?_)); clear k K) | (rename_i A B C D a b c d; (first | refine zx (a ?_) | refine zy (b ?_) | refine zz (fun hc => c ?_) (fun hc => d ?_) | refine zv (b ?_) | refine zw (a ?_)) <;> clear a b c d A B C D <;> try simp only [yL] at hc)) | refine zA ?_ | refine zB ?_ | refine zF ?_)
  exact hPost _ _ ⟨rfl, rfl⟩
theorem damaged_up {H : GHeap} {i k : Nat} {l : JL} (hL : LogAt H k i l) : ∃ r H', gev G 19 [ptr k] H.up = some (r, H') ∧ (r = .bool l.damaged ∧ H' = H.up) := by
  refine gev_GW (f := 19) rfl fun Post hPost => ?_
  have hL' : H.mine k = some (logCells (ptr i) l, 0) := hL
  have hrd : ∀ o, H.up.rd k o = (logCells (ptr i) l)[o]? := fun o => mine_rd (o := o) hL'
  simp only [frameOf, Nat.reduceAdd]
  repeat' (first | refine zn ?_ | refine zK rfl ?_ | refine zP rfl ?_ | ((first | refine zm ?_ | skip); intro _; intros; simp (disch := first | exact zd | fail) only [↓yS, yT, gresults, gone, ↓reduceIte, Nat.reduceEqDiff, Nat.reduceAdd, Nat.reduceMul, reduceCtorEq, Int.reduceToNat, g19, ptr, hrd, logCells]; first | (rename_i K k; (first | refine yC (k _ _ ?_) | refine zg (k _ ?_)); clear k K) | (rename_i A B C D a b c d; (first | refine zx (a ?_) | refine zy (b ?_) | refine zz (fun hc => c ?_) (fun hc => d ?_) | refine zv (b ?_) | refine zw (a ?_)) <;> clear a b c d A B C D <;> try simp only [yL] at hc)) | refine zA ?_ | refine zB ?_ | refine zF ?_)
  exact hPost _ _ ⟨rfl, rfl⟩
theorem free_up {H : GHeap} {i j gc k : Nat} {m : JM} {l : JL} (h : JAt H i j gc k m l) (hfin : l.fin < 70368744177664) : ∃ r H', gev G 15 [ptr k] H.up = some (r, H') ∧ (r = .int .i64 (freeJ m l) ∧ H' = H.up) := by
  refine gev_GW (f := 15) rfl fun Post hPost => ?_
  have hL' : H.mine k = some (logCells (ptr i) l, 0) := h.log
  have hrd : ∀ o, H.up.rd k o = (logCells (ptr i) l)[o]? := fun o => mine_rd (o := o) hL'
  have hbig := h.mem.big
  have hsz : m.size = m.data.length / 2 := rfl
  have hm0 : H.up.up.rd i 0 = some (datv j m.data.length gc) := h.mem.rd 0
  simp only [frameOf, Nat.reduceAdd]
  repeat' (first | refine zn ?_ | refine zK rfl ?_ | refine zP rfl ?_ | ((first | refine zm ?_ | skip); intro _; intros; simp (disch := first | exact zd | fail) only [↓yS, yT, gresults, gone, ↓reduceIte, Nat.reduceEqDiff, Nat.reduceAdd, Nat.reduceMul, reduceCtorEq, Int.reduceToNat, g15, ptr, hrd, logCells]; first | (rename_i K k; (first | refine yC (k _ _ ?_) | refine zg (k _ ?_)); clear k K) | (rename_i A B C D a b c d; (first | refine zx (a ?_) | refine zy (b ?_) | refine zz (fun hc => c ?_) (fun hc => d ?_) | refine zv (b ?_) | refine zw (a ?_)) <;> clear a b c d A B C D <;> try simp only [yL] at hc)) | refine zA ?_ | refine zB ?_ | refine zF ?_)
  refine Gw_s fun K' hK' => G1_callM (by simp only [gtarget, ↓GArg.ev, ↓evs, ↓Tr.get_set, Nat.reduceEqDiff, if_true, if_false, ↓reduceIte, Option.map_some, ptr]; rfl) (size_of hm0 hbig) fun r3 H3 hq => hK' _ _ ?_
  obtain ⟨rfl, rfl⟩ := hq
  rw [show H.up.up.down H.up.lim = H.up from rfl]
  repeat' (first | refine zn ?_ | refine zK rfl ?_ | refine zP rfl ?_ | ((first | refine zm ?_ | skip); intro _; intros; simp (disch := first | exact zd | fail) only [↓yS, yT, gresults, gone, ↓reduceIte, Nat.reduceEqDiff, Nat.reduceAdd, Nat.reduceMul, reduceCtorEq, Int.reduceToNat, g15, ptr, hrd, logCells]; first | (rename_i K k; (first | refine yC (k _ _ ?_) | refine zg (k _ ?_)); clear k K) | (rename_i A B C D a b c d; (first | refine zx (a ?_) | refine zy (b ?_) | refine zz (fun hc => c ?_) (fun hc => d ?_) | refine zv (b ?_) | refine zw (a ?_)) <;> clear a b c d A B C D <;> try simp only [yL] at hc)) | refine zA ?_ | refine zB ?_ | refine zF ?_)
  refine hPost _ _ ⟨?_, rfl⟩
  rw [freeJ]; congr 2; omega

/-! ### what the walk keeps -/
structure PI (H HX : GHeap) (i j gc k a7 a12 : Nat) (dv : Value) (m m' : JM) (l : JL) : Prop where
  same : Same H HX
  m7 : HX.mine a7 = some (rmC dv m', 0)
  m12 : HX.mine a12 = some (rlC l, 0)
  rb : RB HX dv m'.data
  dis : ∀ a ∈ idOf dv, ¬ jo i j k a ∧ a ≠ a7 ∧ a ≠ a12
  n7 : ¬ jo i j k a7
  n12 : ¬ jo i j k a12
  ne : a7 ≠ a12
  y : H.len ≤ i ∧ H.len ≤ j ∧ H.len ≤ k ∧ H.len ≤ a7 ∧ H.len ≤ a12
  jat : JAt HX i j gc k m l
  rl : RL m m'
  br : m.off = true → l.broken = true
  bd : LB l
section
variable {H HX HY HZ : GHeap} {i j gc k a7 a12 : Nat} {dv dv2 : Value} {m m' m2 m2' : JM} {l l2 : JL}
theorem PI.rm (h : PI H HX i j gc k a7 a12 dv m m' l) : RM HX dv m' := ⟨h.rb, by rw [h.rl.data]; exact h.jat.mem.big, by rw [h.rl.data]; exact h.jat.mem.low⟩
theorem PI.later (h : PI H HX i j gc k a7 a12 dv m m' l) (hs : Same HX HY) : PI H HY i j gc k a7 a12 dv m m' l := by
  have hw := h.same.wf
  exact ⟨h.same.trans hs, by rw [hs.mine (mine_lt hw h.m7)]; exact h.m7, by rw [hs.mine (mine_lt hw h.m12)]; exact h.m12, h.rb.same_ hw hs, h.dis, h.n7, h.n12, h.ne, h.y, h.jat.later hs, h.rl, h.br, h.bd⟩
theorem PI.step7 (h : PI H HX i j gc k a7 a12 dv m m' l) (hJ : JAt HY i j gc k m2 l2) (hB : But (jo i j k) HX HY) (hS : Same HY HZ) (hR : RB HZ dv2 m2'.data) (hid : ∀ a ∈ idOf dv2, a ∈ idOf dv ∨ HY.len ≤ a) :
    HZ.mine a7 = some (rmC dv m', 0) ∧ HZ.mine a12 = some (rlC l, 0) ∧ gsetn (rmC dv m') 0 5 (rmV dv2 m2') = some (rmC dv2 m2') ∧ (HZ.put a7 (.cells (rmC dv2 m2') 0 true)).mine a12 = some (rlC l, 0) ∧ gsetn (rlC l) 0 6 (rlV l2) = some (rlC l2) ∧
    Same H (HZ.put a7 (.cells (rmC dv2 m2') 0 true)) ∧ JAt (HZ.put a7 (.cells (rmC dv2 m2') 0 true)) i j gc k m2 l2 ∧ RB (HZ.put a7 (.cells (rmC dv2 m2') 0 true)) dv2 m2'.data ∧ (HZ.put a7 (.cells (rmC dv2 m2') 0 true)).mine a7 = some (rmC dv2 m2', 0) ∧ (∀ a ∈ idOf dv2, ¬ jo i j k a ∧ a ≠ a7 ∧ a ≠ a12) := by
  have hw := h.same.wf
  have hwZ := hS.wf
  obtain ⟨y1, y2, y3, y4, y5⟩ := h.y
  have l7 := mine_lt hw h.m7
  have l12 := mine_lt hw h.m12
  have hBl := hB.len
  have e7 : HZ.mine a7 = some (rmC dv m', 0) := by rw [hS.mine (by omega), hB.mine l7 h.n7]; exact h.m7
  have e12 : HZ.mine a12 = some (rlC l, 0) := by rw [hS.mine (by omega), hB.mine l12 h.n12]; exact h.m12
  have hdis : ∀ a ∈ idOf dv2, ¬ jo i j k a ∧ a ≠ a7 ∧ a ≠ a12 := fun a ha => by
    rcases hid a ha with h1 | h1
    · exact h.dis a h1
    · have q1 := mine_lt hJ.wf hJ.mem.obj
      have q2 := mine_lt hJ.wf hJ.mem.dat
      have q3 := mine_lt hJ.wf hJ.log
      exact ⟨by rintro (e | e | e) <;> omega, by omega, by omega⟩
  have hSH : Same H HZ := (hB.same h.same fun q hq e => by rcases e with e | e | e <;> omega).trans hS
  have hlt := mine_lt hwZ e7
  have hP : But (fun z => z = a7) HZ (HZ.put a7 (.cells (rmC dv2 m2') 0 true)) := (But.refl (S := fun z => z = a7) hwZ).put rfl hlt _
  refine ⟨e7, e12, rm_gset rfl hR.flat, by rw [mine_put_ne (h.ne)]; exact e12, rl_gset rfl, hSH.put y4 hlt _, (hJ.later hS).but hP fun z hz e => h.n7 (e ▸ hz), hR.but hwZ hP fun a ha e => (hdis a ha).2.1 e, mine_put_same (mine_obj e7).1, hdis⟩
theorem PI.arm (h : PI H HX i j gc k a7 a12 dv m m' l) (hJ : JAt HY i j gc k m2 l) (hB : But (jo i j k) HX HY) (hS : Same HY HZ) (hR : RB HZ dv2 m2'.data) (hid : ∀ a ∈ idOf dv2, a ∈ idOf dv ∨ HY.len ≤ a) (hrl : RL m2 m2') (hbr : m2.off = true → l.broken = true) :
    HZ.mine a7 = some (rmC dv m', 0) ∧ gsetn (rmC dv m') 0 5 (rmV dv2 m2') = some (rmC dv2 m2') ∧ PI H (HZ.put a7 (.cells (rmC dv2 m2') 0 true)) i j gc k a7 a12 dv2 m2 m2' l := by
  obtain ⟨c1, c2, c3, c4, c5, c6, c7, c8, c9, c10⟩ := h.step7 hJ hB hS hR hid
  exact ⟨c1, c3, c6, c9, c4, c8, c10, h.n7, h.n12, h.ne, h.y, c7, hrl, hbr, h.bd⟩
theorem PI.step (h : PI H HX i j gc k a7 a12 dv m m' l) (hJ : JAt HY i j gc k m2 l2) (hB : But (jo i j k) HX HY) (hS : Same HY HZ) (hR : RB HZ dv2 m2'.data) (hid : ∀ a ∈ idOf dv2, a ∈ idOf dv ∨ HY.len ≤ a) (hrl : RL m2 m2') (hbr : m2.off = true → l2.broken = true) (hbd : LB l2) :
    HZ.mine a7 = some (rmC dv m', 0) ∧ gsetn (rmC dv m') 0 5 (rmV dv2 m2') = some (rmC dv2 m2') ∧ (HZ.put a7 (.cells (rmC dv2 m2') 0 true)).mine a12 = some (rlC l, 0) ∧ gsetn (rlC l) 0 6 (rlV l2) = some (rlC l2) ∧
    PI H ((HZ.put a7 (.cells (rmC dv2 m2') 0 true)).put a12 (.cells (rlC l2) 0 true)) i j gc k a7 a12 dv2 m2 m2' l2 := by
  obtain ⟨c1, c2, c3, c4, c5, c6, c7, c8, c9, c10⟩ := h.step7 hJ hB hS hR hid
  have hw := c6.wf
  have hlt := mine_lt hw c4
  have hP : But (fun z => z = a12) (HZ.put a7 (.cells (rmC dv2 m2') 0 true)) ((HZ.put a7 (.cells (rmC dv2 m2') 0 true)).put a12 (.cells (rlC l2) 0 true)) := (But.refl (S := fun z => z = a12) hw).put rfl hlt _
  exact ⟨c1, c3, c4, c5, c6.put h.y.2.2.2.2 hlt _, by rw [mine_put_ne (Ne.symm h.ne)]; exact c9, mine_put_same (mine_obj c4).1, c8.but hw hP fun a ha e => (c10 a ha).2.2 e, c10, h.n7, h.n12, h.ne, h.y, c7.but hP fun z hz e => h.n12 (e ▸ hz), hrl, hbr, hbd⟩
theorem PI.open_ (h : PI H HX i j gc k a7 a12 dv m m' l) (hoff : m.off = false) {k2 : Nat} (hS : Same HX HZ) (hk : HX.len ≤ k2) (hm : HZ.mine k2 = some (logCells (ptr i) l2, 0)) (hbd : LB l2) :
    HZ.mine a12 = some (rlC l, 0) ∧ gsetn (rlC l) 0 6 (rlV l2) = some (rlC l2) ∧ PI H (HZ.put a12 (.cells (rlC l2) 0 true)) i j gc k2 a7 a12 dv m m' l2 := by
  have hw := h.same.wf
  have hwZ := hS.wf
  obtain ⟨y1, y2, y3, y4, y5⟩ := h.y
  have q1 := mine_lt hw h.jat.mem.obj
  have q2 := mine_lt hw h.jat.mem.dat
  have q4 := h.same.len
  have l7 := mine_lt hw h.m7
  have l12 := mine_lt hw h.m12
  have hP := h.later hS
  have hB : But (fun z => z = a12) HZ (HZ.put a12 (.cells (rlC l2) 0 true)) := (But.refl (S := fun z => z = a12) hwZ).put rfl (mine_lt hwZ hP.m12) _
  have hJ : JAt HZ i j gc k2 m l2 := ⟨hwZ, hP.jat.mem, hm, by omega⟩
  have n7 : ¬ jo i j k2 a7 := by
    rintro (e | e | e)
    · exact h.n7 (.inl e)
    · exact h.n7 (.inr (.inl e))
    · omega
  have n12 : ¬ jo i j k2 a12 := by
    rintro (e | e | e)
    · exact h.n12 (.inl e)
    · exact h.n12 (.inr (.inl e))
    · omega
  refine ⟨hP.m12, rl_gset rfl, hP.same.put y5 (mine_lt hwZ hP.m12) _, by rw [mine_put_ne (Ne.symm h.ne)]; exact hP.m7, mine_put_same (mine_obj hP.m12).1, hP.rb.but hwZ hB fun a ha e => (h.dis a ha).2.2 e, fun a ha => ?_, n7, n12, h.ne, ⟨y1, y2, by omega, y4, y5⟩, hJ.but hB fun z hz e => n12 (e ▸ hz), h.rl, fun e => absurd (hoff.symm.trans e) (by decide), hbd⟩
  obtain ⟨d1, d2, d3⟩ := h.dis a ha
  have := h.rb.idlt hw a ha
  refine ⟨?_, d2, d3⟩
  rintro (e | e | e)
  · exact d1 (.inl e)
  · exact d1 (.inr (.inl e))
  · omega
theorem PI.rds (h : PI H HX i j gc k a7 a12 dv m m' l) : HX.rdn a7 0 5 = some (rmV dv m') ∧ HX.rdn a12 0 6 = some (rlV l) ∧ HX.rd a7 1 = some dv ∧ HX.rd a7 4 = some (.bool m'.off) ∧ HX.rd a12 2 = some (.int .i64 (l.next : Int)) ∧ HX.rd a12 4 = some (.bool l.damaged) :=
  ⟨rm_rdn h.m7, rl_rdn h.m12, mine_rd h.m7, mine_rd h.m7, mine_rd h.m12, mine_rd h.m12⟩
theorem PI.strne (_h : PI H HX i j gc k a7 a12 dv m m' l) : ∀ e, gbin .neq e (.string (strB m.data)) (.string (strB m.data)) = some (.bool false) := fun e => by
  rw [gb_neqB, decide_eq_false (fun h => h rfl)]
theorem PI.strs (h : PI H HX i j gc k a7 a12 dv m m' l) : gconv .ofBytes HX dv = some (.string (strB m.data), none) := by
  have := h.rb.str
  rw [h.rl.data] at this; exact this
theorem PI.bne (_h : PI H HX i j gc k a7 a12 dv m m' l) : gbin .neq (some EqK.bool) (.bool m.off) (.bool m.off) = some (.bool false) ∧ gbin .neq (some EqK.bool) (.bool l.damaged) (.bool l.damaged) = some (.bool false) := by
  constructor
  · cases m.off <;> rfl
  · cases l.damaged <;> rfl
end
end Go.Gh
