/-
  Documents in memory; arguments that are documents.
-/
import Derived.Test.YtjjcgaompnjbdaaDoorTrD
import Derived.Test.YtjjcgaompnjbdaaDoorK5
namespace Go.Gh
set_option linter.unusedSimpArgs false
set_option linter.unusedVariables false
set_option maxHeartbeats 4000000
open Go.RowKit
set_option maxRecDepth 4000

def rgC (r : Rg) : List Value := [.string (strB r.nm), .int .i64 r.t, .int .i64 r.h, .int .i64 r.l, .int .i64 r.w, .int .u8 r.al, .bool r.bt]
def evC (e : Ev) : List Value := [.int .i64 e.id, .int .i64 e.i, .int .i64 e.o, .string (strB e.rg), .int .u8 e.kd, .string (strB e.sp), e.v]
def cmC (c : Cm) : List Value := [.int .i64 c.id, .int .i64 c.ev, .int .i64 c.fr, .int .i64 c.to, .string (strB c.au), .string (strB c.tx), .bool c.dn, .bool c.lo]
def rgV (r : Rg) : Value := .agg #[.string (strB r.nm), .int .i64 r.t, .int .i64 r.h, .int .i64 r.l, .int .i64 r.w, .int .u8 r.al, .bool r.bt]
def evV (e : Ev) : Value := .agg #[.int .i64 e.id, .int .i64 e.i, .int .i64 e.o, .string (strB e.rg), .int .u8 e.kd, .string (strB e.sp), e.v]
def cmV (c : Cm) : Value := .agg #[.int .i64 c.id, .int .i64 c.ev, .int .i64 c.fr, .int .i64 c.to, .string (strB c.au), .string (strB c.tx), .bool c.dn, .bool c.lo]
def dcV (d : Dc) : Value := .agg #[.string (strB d.ti), .string (strB d.la), .int .u8 d.rt, .bool d.dr, .int .i64 d.last, d.rv, d.ev, d.cv]
theorem rgV_eq (r : Rg) : rgV r = .agg (rgC r).toArray := rfl
theorem evV_eq (e : Ev) : evV e = .agg (evC e).toArray := rfl
theorem cmV_eq (c : Cm) : cmV c = .agg (cmC c).toArray := rfl
theorem rgC_len (r : Rg) : (rgC r).length = 7 := rfl
theorem evC_len (e : Ev) : (evC e).length = 7 := rfl
theorem cmC_len (c : Cm) : (cmC c).length = 8 := rfl
/-- slices that read as regions, as events, as comments -/
abbrev RgR (H : GHeap) (v : Value) (l : List Rg) : Prop := GArg1 H 7 v l.length (l.flatMap rgC)
abbrev CmR (H : GHeap) (v : Value) (l : List Cm) : Prop := GArg1 H 8 v l.length (l.flatMap cmC)
structure EvR (H : GHeap) (v : Value) (l : List Ev) : Prop where
  rd : GArg1 H 7 v l.length (l.flatMap evC)
  rows : ∀ e ∈ l, TR H e.v e.L
structure DcR (H : GHeap) (d : Dc) : Prop where
  rg : RgR H d.rv d.R
  ev : EvR H d.ev d.E
  cm : CmR H d.cv d.C
section
variable {H H' : GHeap} {v : Value}
theorem RgR.rowN {l : List Rg} (h : RgR H v l) {k : Nat} (hk : k < l.length) : H.rdn (blk v) (ofs v + k * 7) 7 = some (rgV l[k]!) := GRd.rowN (f := rgC) h.rd rgC_len (by decide) hk
theorem CmR.rowN {l : List Cm} (h : CmR H v l) {k : Nat} (hk : k < l.length) : H.rdn (blk v) (ofs v + k * 8) 8 = some (cmV l[k]!) := GRd.rowN (f := cmC) h.rd cmC_len (by decide) hk
theorem EvR.rowN {l : List Ev} (h : EvR H v l) {k : Nat} (hk : k < l.length) : H.rdn (blk v) (ofs v + k * 7) 7 = some (evV l[k]!) := GRd.rowN (f := evC) h.rd.rd evC_len (by decide) hk
theorem RgR.row {l : List Rg} (h : RgR H v l) {k c : Nat} (hk : k < l.length) (hc : c < 7) : H.rd (blk v) (ofs v + k * 7 + c) = (rgC l[k]!)[c]? := GRd.row (f := rgC) h.rd rgC_len hk hc
theorem CmR.row {l : List Cm} (h : CmR H v l) {k c : Nat} (hk : k < l.length) (hc : c < 8) : H.rd (blk v) (ofs v + k * 8 + c) = (cmC l[k]!)[c]? := GRd.row (f := cmC) h.rd cmC_len hk hc
theorem EvR.row {l : List Ev} (h : EvR H v l) {k c : Nat} (hk : k < l.length) (hc : c < 7) : H.rd (blk v) (ofs v + k * 7 + c) = (evC l[k]!)[c]? := GRd.row (f := evC) h.rd.rd evC_len hk hc
theorem EvR.at_ {l : List Ev} (h : EvR H v l) {k : Nat} (hk : k < l.length) : TR H l[k]!.v l[k]!.L := h.rows _ (by rw [getElem!_pos l k hk]; exact List.getElem_mem _)
theorem EvR.later {l : List Ev} (h : EvR H v l) (hw : H.wf) (hs : Same H H') : EvR H' v l := ⟨GArg1.same h.rd hw hs, fun e he => (h.rows e he).later hw hs⟩
theorem DcR.later {d : Dc} (h : DcR H d) (hw : H.wf) (hs : Same H H') : DcR H' d := ⟨GArg1.same h.rg hw hs, h.ev.later hw hs, GArg1.same h.cm hw hs⟩
theorem GArg1.flat {s n : Nat} {xs : List Value} (h : GArg1 H s v n xs) : flatV v = true := by
  obtain ⟨a, gc, e, _⟩ := h.sl
  rw [e]; exact flatV_sl
end

/-! ### small enough -/
def smR (l : List SR) : Prop := l.length ≤ 1048576 ∧ ∀ x ∈ l, x.t.length ≤ 1048576 ∧ x.y.length ≤ 1048576
def smE (e : Ev) : Prop := e.rg.length ≤ 1048576 ∧ e.sp.length ≤ 1048576 ∧ (0 ≤ e.kd ∧ e.kd ≤ 255) ∧ e.L.length ≤ 1048576 ∧ ∀ x ∈ e.L, smR x.2
def smG (r : Rg) : Prop := r.nm.length ≤ 1048576 ∧ 0 ≤ r.al ∧ r.al ≤ 255
def smC (c : Cm) : Prop := c.au.length ≤ 1048576 ∧ c.tx.length ≤ 1048576
structure SmD (d : Dc) : Prop where
  ti : d.ti.length ≤ 1048576
  la : d.la.length ≤ 1048576
  rt : 0 ≤ d.rt ∧ d.rt ≤ 255
  R : d.R.length ≤ 1048576 ∧ ∀ r ∈ d.R, smG r
  E : d.E.length ≤ 1048576 ∧ ∀ e ∈ d.E, smE e
  C : d.C.length ≤ 1048576 ∧ ∀ c ∈ d.C, smC c

/-! ### arguments -/
theorem RdAQ.slP_ {Q : Nat → Prop} {H : GHeap} {α : Type} {f : α → List Value} {p : α → Prop} {s : Shp} {gv : Value} (h : RdAQ Q H (.sl s) gv) (hf : ∀ r, RdSQ Q H s r → ∃ x, r = f x ∧ p x) :
    ∃ l : List α, GArg1 H s.size gv l.length (l.flatMap f) ∧ Q l.length ∧ ∀ x ∈ l, p x := by
  simp only [RdAQ, RdSQ] at h
  obtain ⟨v, rows, e, k1, k2, k3⟩ := h
  simp at e
  subst e
  have key : ∀ rows : List (List Value), (∀ r ∈ rows, RdSQ Q H s r) → ∃ l : List α, rows = l.map f ∧ ∀ x ∈ l, p x := by
    intro rows
    induction rows with
    | nil => intro _; exact ⟨[], rfl, by simp⟩
    | cons r rs ih =>
      intro h
      obtain ⟨l, rfl, hl⟩ := ih fun r hr => h r (by simp [hr])
      obtain ⟨x, rfl, hx⟩ := hf r (h r (by simp))
      exact ⟨x :: l, rfl, by
        intro y hy
        rcases List.mem_cons.1 hy with rfl | hy
        · exact hx
        · exact hl y hy⟩
  obtain ⟨l, rfl, hl⟩ := key rows fun r hr => (k3 r hr).2
  rw [List.length_map] at k1 k2
  exact ⟨l, by rw [List.flatMap_def]; exact k1, k2.2.2, hl⟩
theorem sl_of {Q : Nat → Prop} {H : GHeap} {s : Shp} {r : List Value} (h : RdSQ Q H (.sl s) r) : ∃ v, r = [v] ∧ RdAQ Q H (.sl s) v := by
  simp only [RdSQ] at h
  obtain ⟨v, rows, rfl, h2⟩ := h
  exact ⟨v, rfl, by simp only [RdAQ, RdSQ]; exact ⟨v, rows, rfl, h2⟩⟩
def Qs (m : Nat) : Prop := m ≤ 1048576
def rgShp : Shp := .st [.str, .int .i64, .int .i64, .int .i64, .int .i64, .int .u8, .bool]
def evShp : Shp := .st [.int .i64, .st [.int .i64, .int .i64], .str, .int .u8, .str, .sl (.st [.sl runShp])]
def cmShp : Shp := .st [.int .i64, .int .i64, .int .i64, .int .i64, .str, .str, .bool, .bool]
def dcShp : Shp := .st [.str, .str, .int .u8, .bool, .int .i64, .sl rgShp, .sl evShp, .sl cmShp]
theorem runs_of {H : GHeap} {v : Value} (h : RdAQ Qs H (.sl runShp) v) : ∃ l : List SR, RR H v l ∧ smR l := by
  obtain ⟨l, k1, k2, k3⟩ := h.slP_ (f := runC) (p := fun x => x.t.length ≤ 1048576 ∧ x.y.length ≤ 1048576) fun r hr => by
    simp only [runShp, RdSQ, RdSsQ] at hr
    obtain ⟨_, _, rfl, ⟨s, rfl, _, q1⟩, _, _, rfl, ⟨_, _, rfl, ⟨c, rfl, _⟩, _, _, rfl, ⟨i, rfl⟩, _, _, rfl, ⟨u, rfl⟩, rfl⟩, _, _, rfl, ⟨y, rfl, _, q2⟩, rfl⟩ := hr
    exact ⟨⟨s.data.toList, ⟨c, i, u⟩, y.data.toList⟩, by simp [runC, strB_of], by simpa [Qs] using q1, by simpa [Qs] using q2⟩
  exact ⟨l, k1, k2, k3⟩
theorem rows_of {H : GHeap} {v : Value} (h : RdAQ Qs H (.sl (.st [.sl runShp])) v) : ∃ L : List VR', TR H v L ∧ L.length ≤ 1048576 ∧ ∀ x ∈ L, smR x.2 := by
  obtain ⟨L, k1, k2, k3⟩ := h.slP_ (f := fun x : VR' => [x.1]) (p := fun x => RR H x.1 x.2 ∧ smR x.2) fun r hr => by
    simp only [RdSQ, RdSsQ] at hr
    obtain ⟨a, b, rfl, h1, rfl⟩ := hr
    obtain ⟨w, rfl, h2⟩ := sl_of (s := runShp) (by simpa only [RdSQ] using h1)
    obtain ⟨l, h3, h4⟩ := runs_of h2
    exact ⟨(w, l), rfl, h3, h4⟩
  refine ⟨L, ⟨?_, fun x hx => (k3 x hx).1⟩, k2, fun x hx => (k3 x hx).2⟩
  have e : ∀ L : List VR', L.flatMap (fun x : VR' => [x.1]) = L.map (·.1) := by
    intro L
    induction L with
    | nil => rfl
    | cons x L ih => rw [List.flatMap_cons, ih]; rfl
  rw [← e]; exact k1
theorem regs_of {H : GHeap} {v : Value} (h : RdAQ Qs H (.sl rgShp) v) : ∃ l : List Rg, RgR H v l ∧ l.length ≤ 1048576 ∧ ∀ r ∈ l, smG r := by
  obtain ⟨l, k1, k2, k3⟩ := h.slP_ (f := rgC) (p := smG) fun r hr => by
    simp only [rgShp, RdSQ, RdSsQ] at hr
    obtain ⟨_, _, rfl, ⟨s, rfl, _, q1⟩, _, _, rfl, ⟨t, rfl, _⟩, _, _, rfl, ⟨hh, rfl, _⟩, _, _, rfl, ⟨l, rfl, _⟩, _, _, rfl, ⟨w, rfl, _⟩, _, _, rfl, ⟨al, rfl, q2⟩, _, _, rfl, ⟨b, rfl⟩, rfl⟩ := hr
    exact ⟨⟨s.data.toList, t, hh, l, w, al, b⟩, by simp [rgC, strB_of], by simpa [Qs] using q1, wf_u8 q2⟩
  exact ⟨l, k1, k2, k3⟩
theorem cms_of {H : GHeap} {v : Value} (h : RdAQ Qs H (.sl cmShp) v) : ∃ l : List Cm, CmR H v l ∧ l.length ≤ 1048576 ∧ ∀ r ∈ l, smC r := by
  obtain ⟨l, k1, k2, k3⟩ := h.slP_ (f := cmC) (p := smC) fun r hr => by
    simp only [cmShp, RdSQ, RdSsQ] at hr
    obtain ⟨_, _, rfl, ⟨a, rfl, _⟩, _, _, rfl, ⟨b, rfl, _⟩, _, _, rfl, ⟨c, rfl, _⟩, _, _, rfl, ⟨d, rfl, _⟩, _, _, rfl, ⟨s, rfl, _, q1⟩, _, _, rfl, ⟨u, rfl, _, q2⟩, _, _, rfl, ⟨x, rfl⟩, _, _, rfl, ⟨y, rfl⟩, rfl⟩ := hr
    exact ⟨⟨a, b, c, d, s.data.toList, u.data.toList, x, y⟩, by simp [cmC, strB_of], by simpa [Qs] using q1, by simpa [Qs] using q2⟩
  exact ⟨l, k1, k2, k3⟩
theorem evs_of {H : GHeap} {v : Value} (h : RdAQ Qs H (.sl evShp) v) : ∃ l : List Ev, EvR H v l ∧ l.length ≤ 1048576 ∧ ∀ e ∈ l, smE e := by
  obtain ⟨l, k1, k2, k3⟩ := h.slP_ (f := evC) (p := fun e => TR H e.v e.L ∧ smE e) fun r hr => by
    simp only [evShp, RdSsQ] at hr
    unfold RdSQ at hr
    simp only [RdSsQ] at hr
    obtain ⟨_, _, rfl, h1, _, _, rfl, h2, _, _, rfl, h3, _, _, rfl, h4, _, _, rfl, h5, _, _, rfl, h6, rfl⟩ := hr
    simp only [RdSQ, RdSsQ] at h1 h2 h3 h4 h5
    obtain ⟨a, rfl, _⟩ := h1
    obtain ⟨_, _, rfl, ⟨b, rfl, _⟩, _, _, rfl, ⟨c, rfl, _⟩, rfl⟩ := h2
    obtain ⟨s, rfl, _, q1⟩ := h3
    obtain ⟨k, rfl, q2⟩ := h4
    obtain ⟨u, rfl, _, q3⟩ := h5
    obtain ⟨w, rfl, h7⟩ := sl_of h6
    obtain ⟨L, m1, m2, m3⟩ := rows_of h7
    exact ⟨⟨a, b, c, s.data.toList, k, u.data.toList, w, L⟩, by simp [evC, strB_of], m1, by simpa [Qs] using q1, by simpa [Qs] using q3, wf_u8 q2, m2, m3⟩
  exact ⟨l, ⟨k1, fun e he => (k3 e he).1⟩, k2, fun e he => (k3 e he).2⟩
theorem dc_of {H : GHeap} {gv : Value} (h : RdAQ Qs H dcShp gv) : ∃ d, gv = dcV d ∧ DcR H d ∧ SmD d := by
  simp only [dcShp, RdAQ, RdSsQ] at h
  obtain ⟨gs, rfl, _, _, rfl, h1, _, _, rfl, h2, _, _, rfl, h3, _, _, rfl, h4, _, _, rfl, h5, _, _, rfl, h6, _, _, rfl, h7, _, _, rfl, h8, rfl⟩ := h
  obtain ⟨rv, rfl, m6⟩ := sl_of h6
  obtain ⟨ev, rfl, m7⟩ := sl_of h7
  obtain ⟨cv, rfl, m8⟩ := sl_of h8
  simp only [RdSQ] at h1 h2 h3 h4 h5
  obtain ⟨s, rfl, _, q1⟩ := h1
  obtain ⟨u, rfl, _, q2⟩ := h2
  obtain ⟨r, rfl, q3⟩ := h3
  obtain ⟨b, rfl⟩ := h4
  obtain ⟨n, rfl, _⟩ := h5
  obtain ⟨R, a1, a2⟩ := regs_of m6
  obtain ⟨E, b1, b2⟩ := evs_of m7
  obtain ⟨C, c1, c2⟩ := cms_of m8
  exact ⟨⟨s.data.toList, u.data.toList, r, b, n, rv, R, ev, E, cv, C⟩, by simp [dcV, strB_of], ⟨a1, b1, c1⟩, by simpa [Qs] using q1, by simpa [Qs] using q2, wf_u8 q3, a2, b2, c2⟩
end Go.Gh
