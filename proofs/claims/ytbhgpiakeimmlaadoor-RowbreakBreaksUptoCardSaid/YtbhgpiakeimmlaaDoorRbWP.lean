/-
  rowbreak: what the laws share: awake, few, the paragraph that came in.
-/
import Derived.Test.YtbhgpiakeimmlaaDoorRbW6
namespace Go.Gh
set_option linter.unusedSimpArgs false
set_option linter.unusedVariables false
open Go.RowKit
set_option maxRecDepth 4000

theorem GArg1.preI {H : GHeap} (hw : H.wf) {size n : Nat} {v : Value} {xs : List Value} (h : GArg1 H size v n xs) {b : Nat} (hb : b ≤ n) :
    ∃ v', (∀ H', Same H H' → gslice (.sl size) H' v none (some (.int .i64 (b : Int))) none = some v') ∧ GArg1 H size v' b (xs.take (b * size)) := by
  obtain ⟨v', e, h1, _⟩ := h.cut (k := .i64) (a := 0) (b := b) (by omega) (by omega) (by omega)
  refine ⟨v', fun H' hS => ?_, ?_⟩
  · rw [h.gslice_same hw hS, gslice_lo0 (k := .i64) (fun x hx => by cases hx; exact ⟨_, _, rfl⟩)]; exact e
  · simpa using h1
theorem awake_ok (H : GHeap) : ∃ r H', gev G 10 [] H = some (r, H') ∧ (r = .bool true ∧ H' = H) := ⟨_, _, awake_gev H, rfl, rfl⟩
def zpar : List Value := [.slice none 0 0, .int .i64 0, .int .i64 0, .int .i64 0, .int .i64 0, .int .i64 0, .int .i64 0, .int .i64 0, .int .i64 0, .int .i64 0, .int .i64 0, .int .i64 0, .int .i64 0, .int .i64 0, .int .i64 0]
theorem zparE : ([.slice none 0 0, .int .i64 0, .int .i64 0, .int .i64 0, .int .i64 0, .int .i64 0, .int .i64 0, .int .i64 0, .int .i64 0, .int .i64 0, .int .i64 0, .int .i64 0, .int .i64 0, .int .i64 0, .int .i64 0] : List Value) = zpar := rfl
theorem gsetn_par {cs : List Value} {p : Par} (hl : cs.length = 15) (hp : flatV p.v = true) : gsetn cs 0 15 (parV p) = some (parC p) := gsetn_all hl rfl (parC_flat hp)
theorem Tk_take (l : List Tk) (k : Nat) : (TkC l).take (k * 2) = TkC (l.take k) := by
  induction l generalizing k with
  | nil => simp [TkC]
  | cons x l ih =>
    cases k with
    | zero => simp [TkC]
    | succ k =>
      have e : TkC (x :: l) = tkC x ++ TkC l := by simp [TkC]
      have e2 : TkC ((x :: l).take (k + 1)) = tkC x ++ TkC (l.take k) := by simp [TkC]
      rw [e, e2, List.take_append, List.take_of_length_le (by rw [tkC_len]; omega), tkC_len, ← ih k]
      congr 2
      omega
theorem few_ok' {H0 H : GHeap} (hw0 : H0.wf) (hw : H.wf) (hS0 : Same H0 H) {p : Par} (hp : PR H0 p) : ∃ r H', gev G 11 [parV p] H = some (r, H') ∧ (∃ q, r = parV q ∧ PR H0 q ∧ q.l.length ≤ 16 ∧ q.l = p.l.take 16 ∧ Same H H') := by
  refine gev_GW (f := 11) rfl fun Post hPost => ?_
  have hf := hp.kr.flat
  have hlim := hw.1
  have hb := par_cflat hf
  have hl := par_cells p
  have hsl := hp.kr.isSl
  have hle := hp.le
  obtain ⟨v', hcut, hgv⟩ := GArg1.preI hw0 hp.kr (b := min p.l.length 16) (by omega)
  have hS1 := ((Same.refl hw).add (.cells (parC p) 0 true)).add (.cells zpar 0 true)
  have hcut1 := hcut _ (hS0.trans hS1)
  have hmin : min (p.l.length : Int) 16 = ((min p.l.length 16 : Nat) : Int) := by omega
  have hgv' : KR H0 v' (p.l.take 16) := by
    have e2 : p.l.take (min p.l.length 16) = p.l.take 16 := by
      rcases Nat.le_total p.l.length 16 with h | h
      · rw [Nat.min_eq_left h, List.take_length, List.take_of_length_le h]
      · rw [Nat.min_eq_right h]
    rw [Tk_take, e2] at hgv
    have e3 : (p.l.take 16).length = min p.l.length 16 := by rw [List.length_take]; omega
    unfold KR
    rw [e3]; exact hgv
  have hfv := hgv'.flat
  let q : Par := {p with v := v', l := p.l.take 16}
  have hset : gset (parC p) 0 v' = some (parC q) := gset_ok (by rw [parC_len]; decide) hfv
  have hst : gsetn zpar 0 15 (parV q) = some (parC q) := gsetn_par rfl hfv
  have hm1 : ((H.add (some (.cells (parC p) 0 true))).add (some (.cells zpar 0 true))).mine H.len = some (parC p, 0) := by rw [mine_add_ne (by rw [len_add]; omega)]; exact mine_add_eq rfl hlim
  have hm2 : ((H.add (some (.cells (parC p) 0 true))).add (some (.cells zpar 0 true))).mine (H.len + 1) = some (zpar, 0) := mine_add_eq (by rw [len_add]) (by rw [lim_add]; omega)
  have e0 : ∀ o, ((H.add (some (.cells (parC p) 0 true))).add (some (.cells zpar 0 true))).rd H.len o = (parC p)[o]? := fun o => mine_rd hm1
  simp only [frameOf, Nat.reduceAdd]
  have hq1 : (((H.add (some (.cells (parC p) 0 true))).add (some (.cells zpar 0 true))).put H.len (.cells (parC q) 0 true)).rdn H.len 0 15 = some (parV q) := rdn_put_all rfl
  have hq2 : (((H.add (some (.cells (parC p) 0 true))).add (some (.cells zpar 0 true))).put H.len (.cells (parC q) 0 true)).mine (H.len + 1) = some (zpar, 0) := by rw [mine_put_ne (by omega)]; exact hm2
  have hq3 : ((((H.add (some (.cells (parC p) 0 true))).add (some (.cells zpar 0 true))).put H.len (.cells (parC q) 0 true)).put (H.len + 1) (.cells (parC q) 0 true)).rdn (H.len + 1) 0 15 = some (parV q) := rdn_put_all rfl
  repeat' (first | refine zA ?_ | refine zB ?_ | refine zC ?_ | refine zD ?_ | refine zE ?_ | refine zF ?_ | refine zG ?_ | refine zH ?_ | refine zI ?_ | refine zJ ?_ | refine zK rfl ?_ | refine zL ?_ | refine zM ?_ | refine zN ?_ | refine zO ?_ | refine zP rfl ?_ | refine zQ ?_ | ((first | refine zR ?_ | refine zS ?_ | refine zT ?_ | skip); intro K k; simp (disch := (first | (simp only [yD2, beq_self_eq_true, Nat.reduceLT, Nat.reduceAdd]; done) | ((fail_if_success (apply Bool.eq_iff_iff.2)); first | omega | (simp only [yD2, beq_self_eq_true, Nat.reduceLT, Nat.reduceAdd] <;> omega)) | fail)) only [↓yS, yT, ↓reduceIte, Nat.reduceEqDiff, Nat.reduceAdd, Nat.reduceMul, reduceCtorEq, Int.reduceToNat, g11, zparE, hb, hl, e0, parC_0, hsl.len, hmin, hcut1, hm1, hset, hq1, hq2, hst, hq3]; refine yC (k _ _ ?_); clear k K) | ((first | refine zU ?_ | refine zV ?_ | refine zW ?_); intro A B C D a b c d; simp only [↓yG, Nat.reduceEqDiff, ↓reduceIte, g11, zparE, hb, hl, e0, parC_0, hsl.len, hmin, hcut1, hm1, hset, hq1, hq2, hst, hq3]; (first | refine zX (a ?_) | refine zY (b ?_) | refine zZ (fun hc => c ?_) (fun hc => d ?_)) <;> clear a b c d A B C D <;> try simp only [yL] at hc) | (refine yA ?_; intro A a; simp only [↓yG, Nat.reduceEqDiff, ↓reduceIte, g11, zparE, hb, hl, e0, parC_0, hsl.len, hmin, hcut1, hm1, hset, hq1, hq2, hst, hq3]; refine yB (a ?_); clear a A) | (refine yD ?_; simp only [gresults, ↓yG, Nat.reduceEqDiff, ↓reduceIte, Option.bind_some, gld_1, gld_n, g11, zparE, hb, hl, e0, parC_0, hsl.len, hmin, hcut1, hm1, hset, hq1, hq2, hst, hq3]; refine ⟨_, rfl, ?_⟩; simp only [gone]))
  have hS2 : Same H ((((H.add (some (.cells (parC p) 0 true))).add (some (.cells zpar 0 true))).put H.len (.cells (parC q) 0 true)).put (H.len + 1) (.cells (parC q) 0 true)) :=
    (hS1.put (by omega) (by simp only [len_add]; omega) _).put (by omega) (by simp only [len_put, len_add]; omega) _
  refine hPost _ _ ⟨q, rfl, ⟨hgv', fun x hx => hp.sh x (List.mem_of_mem_take hx), ?_, hp.ww, hp.rr⟩, ?_, rfl, hS2⟩
  · show (p.l.take 16).length ≤ _
    rw [List.length_take]; omega
  · show (p.l.take 16).length ≤ _
    rw [List.length_take]; omega
theorem few_ok {H0 H : GHeap} (hw0 : H0.wf) (hw : H.wf) (hS0 : Same H0 H) {p : Par} (hp : PR H0 p) : ∃ r H', gev G 11 [parV p] H = some (r, H') ∧ (∃ q, r = parV q ∧ PR H0 q ∧ q.l.length ≤ 16 ∧ Same H H') := by
  obtain ⟨r, H', h1, q, h2, h3, h4, _, h5⟩ := few_ok' hw0 hw hS0 hp
  exact ⟨r, H', h1, q, h2, h3, h4, h5⟩
theorem rdnP {H : GHeap} {i u : Nat} {b : Bool} {p : Par} : (H.put i (.cells (parC p) u b)).rdn i 0 15 = some (parV p) := rdn_put_all rfl
theorem gsetn_z {p : Par} (hp : flatV p.v = true) : gsetn zpar 0 15 (parV p) = some (parC p) := gsetn_par rfl hp
theorem par_set2 {p : Par} {n : Int} : gset (parC p) 2 (.int .i64 n) = some (parC {p with r := n}) := gset_ok (by rw [parC_len]; decide) rfl
theorem RdA.tok {Q : Nat → Prop} {H : GHeap} {r : List Value} (h : RdSQ Q H (.st [.str, .int .i64]) r) : ∃ x : Tk, r = tkC x := by
  simp only [RdSQ, RdSsQ] at h
  obtain ⟨_, _, rfl, ⟨s, rfl, _⟩, _, _, rfl, ⟨n, rfl, _⟩, rfl⟩ := h
  refine ⟨⟨s.data.toList, n⟩, ?_⟩
  simp [tkC, strB_of]
def parShp : Shp := .st [.sl (.st [.str, .int .i64]), .int .i64, .int .i64, .st [.st [.int .i64, .int .i64, .int .i64, .int .i64, .int .i64, .int .i64], .int .i64, .int .i64, .int .i64, .int .i64, .int .i64, .int .i64]]
/-- a paragraph that came in; what Q says of the lengths -/
theorem RdA.par {Q : Nat → Prop} {H : GHeap} {gv : Value} (h : RdAQ Q H parShp gv) : ∃ p, gv = parV p ∧ PR H p ∧ ∀ x ∈ p.l, Q x.t.length := by
  obtain ⟨gs, rfl, h⟩ := h
  simp only [parShp, RdSsQ] at h
  obtain ⟨a, _, rfl, h1, _, _, rfl, ⟨w, rfl, hw⟩, _, _, rfl, ⟨r, rfl, hr⟩, tb, _, rfl, ht, rfl⟩ := h
  have h1' : ∃ v, a = [v] ∧ RdAQ Q H (.sl (.st [.str, .int .i64])) v := by
    simp only [RdSQ] at h1
    obtain ⟨v, rows, rfl, k⟩ := h1
    refine ⟨v, rfl, ?_⟩
    simp only [RdAQ, RdSQ]
    exact ⟨v, rows, rfl, k⟩
  obtain ⟨v, rfl, h2⟩ := h1'
  obtain ⟨l, k1, k2, k3⟩ := h2.slQ_ (f := tkC) fun r hr => RdA.tok hr
  simp only [RdSQ, RdSsQ] at ht
  obtain ⟨_, _, rfl, hs, _, _, rfl, ⟨rg, rfl, _⟩, _, _, rfl, ⟨rw, rfl, _⟩, _, _, rfl, ⟨ev, rfl, _⟩, _, _, rfl, ⟨fa, rfl, _⟩, _, _, rfl, ⟨ga, rfl, _⟩, _, _, rfl, ⟨sh, rfl, _⟩, rfl⟩ := ht
  obtain ⟨_, _, rfl, ⟨s0, rfl, _⟩, _, _, rfl, ⟨s1, rfl, _⟩, _, _, rfl, ⟨s2, rfl, _⟩, _, _, rfl, ⟨s3, rfl, _⟩, _, _, rfl, ⟨s4, rfl, _⟩, _, _, rfl, ⟨s5, rfl, _⟩, rfl⟩ := hs
  refine ⟨⟨v, l, w, r, ⟨s0, s1, s2, s3, s4, s5, rg, rw, ev, fa, ga, sh⟩⟩, rfl, ⟨k1, fun x hx => ?_, ?_, wf_i64 hw, wf_i64 hr⟩, fun x hx => ?_⟩
  · have := k3 x hx
    simp only [tkC, RdSQ, RdSsQ] at this
    obtain ⟨_, _, e, ⟨s, rfl, k4, _⟩, _⟩ := this
    simp only [List.cons_append, List.nil_append, List.cons.injEq, Value.string.injEq] at e
    have : (strB x.t).size = s.size := by rw [e.1]
    rw [strB_size] at this
    simp only [reachBytes] at k4
    omega
  · have := k2.2.1
    have hlo : (Shp.st [.str, .int .i64]).lo = 24 := by decide
    rw [hlo] at this
    simp only [reachBytes] at this
    show l.length ≤ _
    omega
  · have := k3 x hx
    simp only [tkC, RdSQ, RdSsQ] at this
    obtain ⟨_, _, e, ⟨s, rfl, _, k4⟩, _⟩ := this
    simp only [List.cons_append, List.nil_append, List.cons.injEq, Value.string.injEq] at e
    have : (strB x.t).size = s.size := by rw [e.1]
    rw [strB_size] at this
    rw [this]; exact k4
end Go.Gh
