/-
  What the journal's laws share: plain outcomes of Append and Compact; arguments; tables of records that are wanted.
-/
import Derived.Test.YtbficpmoppailaaJnW9
import Derived.Test.YtbficpmoppailaaJnP2
import Derived.Test.YtbficpmoppailaaK5
namespace Go.Gh
set_option linter.unusedSimpArgs false
set_option linter.unusedVariables false
set_option maxHeartbeats 4000000
open Go.RowKit
set_option maxRecDepth 4000

/-! ### plain outcomes -/
def JL.app (l : JL) (p : List UInt8) : JL := {l with fin := l.fin + 17 + p.length, next := l.next + 1}
def JL.cmp (l : JL) (p : List UInt8) : JL := {l with bank := 1 - l.bank, gen := l.gen + 1, fin := 30 + p.length, next := l.next + 1, damaged := false}
theorem refB_zero {m : JM} {l : JL} {o n : Nat} (h1 : l.next ≤ 1099511627776) (h2 : o + 17 + n < m.size) (h3 : l.broken = false) (h4 : m.off = false) : refB m l o n = 0 := by
  unfold refB
  rw [if_neg (by omega), if_neg (by omega), if_neg (by rw [h3, h4]; decide)]
theorem refB_full {m : JM} {l : JL} {o n : Nat} (h1 : l.next ≤ 1099511627776) (h2 : ¬ o + 17 + n < m.size) : refB m l o n = 20 := by
  unfold refB
  rw [if_neg (by omega), if_pos (by omega)]
theorem refB_off {m : JM} {l : JL} {o n : Nat} (h1 : l.next ≤ 1099511627776) (h2 : o + 17 + n < m.size) (h3 : l.broken = true) : refB m l o n = 21 := by
  unfold refB
  rw [if_neg (by omega), if_neg (by omega), if_pos (by rw [h3]; rfl)]
theorem app_full {m : JM} {l : JL} {p : List UInt8} (h1 : l.next ≤ 1099511627776) (h2 : ¬ l.fin + 17 + p.length < m.size) : appendJ m l p = (m, l, 0, 20) := by
  simp only [appendJ, refB_full h1 h2]
  rw [if_neg (by decide), if_pos (by decide)]
theorem cmp_full {m : JM} {l : JL} {p : List UInt8} (h1 : l.next ≤ 1099511627776) (h2 : ¬ 30 + p.length < m.size) : compactJ m l p = (m, l, 0, 20) := by
  simp only [compactJ, refB_full h1 (show ¬ 13 + 17 + p.length < m.size by omega)]
  rw [if_neg (by decide), if_pos (by decide)]
theorem app_off {m : JM} {l : JL} {p : List UInt8} (h1 : l.next ≤ 1099511627776) (h2 : l.fin + 17 + p.length < m.size) (h3 : l.broken = true) : appendJ m l p = (m, l.broke, 0, 21) := by
  simp only [appendJ, refB_off h1 h2 h3, if_true]
theorem cmp_off {m : JM} {l : JL} {p : List UInt8} (h1 : l.next ≤ 1099511627776) (h2 : 30 + p.length < m.size) (h3 : l.broken = true) : compactJ m l p = (m, l.broke, 0, 21) := by
  simp only [compactJ, refB_off h1 (show 13 + 17 + p.length < m.size by omega) h3, if_true]
theorem app_try {m : JM} {l : JL} {p : List UInt8} (h1 : l.next ≤ 1099511627776) (h2 : l.fin + 17 + p.length < m.size) (h3 : l.broken = false) (h4 : m.off = false) :
    appendJ m l p = if (wrB m (shift (l.bank * m.size) (recW l.fin 165 l.next p))).2 = true then ((wrB m (shift (l.bank * m.size) (recW l.fin 165 l.next p))).1, l.app p, l.next, 0) else ((wrB m (shift (l.bank * m.size) (recW l.fin 165 l.next p))).1, l.broke, 0, 21) := by
  simp only [appendJ, refB_zero h1 h2 h3 h4, appW_shift]
  rw [if_neg (by decide), if_neg (by decide)]
  rfl
theorem cmp_try {m : JM} {l : JL} {p : List UInt8} (h1 : l.next ≤ 1099511627776) (h2 : 30 + p.length < m.size) (h3 : l.broken = false) (h4 : m.off = false) (hg : l.gen < 9223372036854775807) :
    compactJ m l p = if (wrB m (shift ((1 - l.bank) * m.size) (stW (l.gen + 1) l.next p))).2 = true then ((wrB m (shift ((1 - l.bank) * m.size) (stW (l.gen + 1) l.next p))).1, l.cmp p, l.next, 0) else ((wrB m (shift ((1 - l.bank) * m.size) (stW (l.gen + 1) l.next p))).1, l.broke, 0, 21) := by
  simp only [compactJ, refB_zero h1 (show 13 + 17 + p.length < m.size by omega) h3 h4, cmpW_shift]
  rw [if_neg (by decide), if_neg (by decide), Nat.mod_eq_of_lt (by omega)]
  rfl
/-- a journal that is whole, its memory with power and nothing armed -/
structure Calm (m : JM) (l : JL) (rs : List JR) : Prop where
  good : Good m.data l rs
  off : m.off = false
  armed : m.armed = false
  broken : l.broken = false
theorem shift_length (s : Nat) (l : List (Nat × UInt8)) : (shift s l).length = l.length := by simp [shift]
theorem Calm.append {m : JM} {l : JL} {rs : List JR} (h : Calm m l rs) {p : List UInt8} (hp : p.length < 4294967296) (h1 : l.next ≤ 1099511627776) (h2 : l.fin + 17 + p.length < m.size) :
    ∃ m', appendJ m l p = (m', l.app p, l.next, 0) ∧ Calm m' (l.app p) (rs ++ [⟨l.next, false, p⟩]) ∧ m'.data.length = m.data.length := by
  obtain ⟨e1, e2, e3, e4⟩ := wrB_free (shift (l.bank * m.size) (recW l.fin 165 l.next p)) m h.off h.armed
  refine ⟨_, by rw [app_try h1 h2 h.broken h.off, if_pos e1], ⟨?_, e3, e4, h.broken⟩, by rw [e2, setAll_length]⟩
  rw [e2]
  exact h.good.append hp h2 h1
theorem Calm.compact {m : JM} {l : JL} {rs : List JR} (h : Calm m l rs) {p : List UInt8} (hp : p.length < 4294967296) (h1 : l.next ≤ 1099511627776) (h2 : 30 + p.length < m.size) (hg : l.gen + 1 < 9223372036854775808) :
    ∃ m', compactJ m l p = (m', l.cmp p, l.next, 0) ∧ Calm m' (l.cmp p) [⟨l.next, true, p⟩] ∧ m'.data.length = m.data.length := by
  obtain ⟨e1, e2, e3, e4⟩ := wrB_free (shift ((1 - l.bank) * m.size) (stW (l.gen + 1) l.next p)) m h.off h.armed
  refine ⟨_, by rw [cmp_try h1 h2 h.broken h.off (by omega), if_pos e1], ⟨?_, e3, e4, h.broken⟩, by rw [e2, setAll_length]⟩
  rw [e2]
  exact h.good.compact hp h2 h1 hg false
/-- with the power about to fail -/
theorem Calm.append_armed {m : JM} {l : JL} {rs : List JR} (h : Calm m l rs) {p : List UInt8} (hp : p.length < 4294967296) (h1 : l.next ≤ 1099511627776) (h2 : l.fin + 17 + p.length < m.size) {n : Int} (hn : 0 ≤ n) (hn2 : n < 9223372036854775807) :
    (19 + p.length ≤ n → ∃ m', appendJ {m with armed := true, left := n} l p = (m', l.app p, l.next, 0) ∧ Good m'.data (l.app p) (rs ++ [⟨l.next, false, p⟩]) ∧ m'.data.length = m.data.length ∧ m'.off = false) ∧
    (n < 19 + p.length → ∃ m', appendJ {m with armed := true, left := n} l p = (m', l.broke, 0, 21) ∧ Good m'.data l rs ∧ m'.data.length = m.data.length ∧ m'.off = true) := by
  obtain ⟨e1, e2, e3, e4, _⟩ := wrB_armed (shift (l.bank * m.size) (recW l.fin 165 l.next p)) {m with armed := true, left := n} h.off rfl hn hn2
  have ht := app_try (m := {m with armed := true, left := n}) (p := p) h1 h2 h.broken h.off
  have hsz : ({m with armed := true, left := n} : JM).size = m.size := rfl
  rw [hsz] at ht
  have hl : (shift (l.bank * m.size) (recW l.fin 165 l.next p)).length = 19 + p.length := by rw [shift_length, recW_length]
  rw [hl] at e1 e3
  constructor
  · intro hh
    have hh' : (((19 + p.length : Nat) : Int) ≤ n) := by omega
    refine ⟨_, by rw [ht, if_pos (by rw [e1, decide_eq_true hh'])], ?_, by rw [e2, setAll_length], by rw [e3, decide_eq_false (by simp only; omega)]⟩
    rw [e2, List.take_of_length_le (by rw [hl]; simp only; omega)]
    exact h.good.append hp h2 h1
  · intro hh
    refine ⟨_, by rw [ht, if_neg (by rw [e1, decide_eq_false (by simp only; omega)]; decide)], ?_, by rw [e2, setAll_length], by rw [e3, decide_eq_true (by simp only; omega)]⟩
    rw [e2]
    exact h.good.part h2 (by simp only; omega)
theorem Calm.compact_armed {m : JM} {l : JL} {rs : List JR} (h : Calm m l rs) {p : List UInt8} (hp : p.length < 4294967296) (h1 : l.next ≤ 1099511627776) (h2 : 30 + p.length < m.size) (hg : l.gen + 1 < 9223372036854775808) {n : Int} (hn : 0 ≤ n) (hn2 : n < 9223372036854775807) :
    (33 + p.length ≤ n → ∃ m', compactJ {m with armed := true, left := n} l p = (m', l.cmp p, l.next, 0) ∧ Good m'.data (l.cmp p) [⟨l.next, true, p⟩] ∧ m'.data.length = m.data.length ∧ m'.off = false) ∧
    (n < 33 + p.length → ∃ m', compactJ {m with armed := true, left := n} l p = (m', l.broke, 0, 21) ∧ Good m'.data l rs ∧ m'.data.length = m.data.length ∧ m'.off = true) := by
  obtain ⟨e1, e2, e3, e4, _⟩ := wrB_armed (shift ((1 - l.bank) * m.size) (stW (l.gen + 1) l.next p)) {m with armed := true, left := n} h.off rfl hn hn2
  have ht := cmp_try (m := {m with armed := true, left := n}) (p := p) h1 h2 h.broken h.off (by omega)
  have hsz : ({m with armed := true, left := n} : JM).size = m.size := rfl
  rw [hsz] at ht
  have hl : (shift ((1 - l.bank) * m.size) (stW (l.gen + 1) l.next p)).length = 33 + p.length := by rw [shift_length, stW_length]
  rw [hl] at e1 e3
  constructor
  · intro hh
    have hh' : (((33 + p.length : Nat) : Int) ≤ n) := by omega
    refine ⟨_, by rw [ht, if_pos (by rw [e1, decide_eq_true hh'])], ?_, by rw [e2, setAll_length], by rw [e3, decide_eq_false (by simp only; omega)]⟩
    rw [e2, List.take_of_length_le (by rw [hl]; simp only; omega)]
    exact h.good.compact hp h2 h1 hg false
  · intro hh
    refine ⟨_, by rw [ht, if_neg (by rw [e1, decide_eq_false (by simp only; omega)]; decide)], ?_, by rw [e2, setAll_length], by rw [e3, decide_eq_true (by simp only; omega)]⟩
    rw [e2]
    exact h.good.cpart h2 (by simp only; omega)

theorem Good.fin_lt {d : List UInt8} {l : JL} {rs : List JR} (h : Good d l rs) : l.fin < d.length / 2 := by
  have h1 := bankB_len (d := d) h.bank
  obtain ⟨rest, e⟩ := h.act
  rw [e] at h1
  simp [headB_length] at h1
  have := h.fin
  omega
theorem fill_recv {k : Int} {t : Bool} {x : Value} (h : flatV x = true) : fillL (zeros [.int .i64 0, .bool false, .slice none 0 0] 1) [(0, 3, .agg #[.int .i64 k, .bool t, x])] = some [.int .i64 k, .bool t, x] := by
  simp [fillL, zeros, Value.cells, flatV_int, flatV_bool, h]
theorem build_rec {k : Int} {t : Bool} {x : Value} (h : flatV x = true) : fillL [.int .i64 0, .bool false, .slice none 0 0] [(0, 1, .int .i64 k), (1, 1, .bool t), (2, 1, x)] = some [.int .i64 k, .bool t, x] := by
  rw [fillL_set _ _ (by simp [h, flatV_int, flatV_bool])]; rfl
theorem build_rec0 {k : Int} {x : Value} (h : flatV x = true) : fillL [.int .i64 0, .bool false, .slice none 0 0] [(0, 1, .int .i64 k), (2, 1, x)] = some [.int .i64 k, .bool false, x] := by
  rw [fillL_set _ _ (by simp [h, flatV_int])]; rfl

/-! ### arguments -/
theorem ints_u8s {l : List Int} (h : ∀ n ∈ l, (Lit.int .u8 n).wf = true) : ints .u8 l = u8s (l.map fun n => UInt8.ofNat n.toNat) := by
  unfold ints u8s
  rw [List.map_map]
  refine List.map_congr_left fun n hn => ?_
  have := wf_u8 (h n hn)
  simp only [Function.comp, UInt8.toNat_ofNat']
  congr 1; omega
theorem RdA.bytes_ {H : GHeap} {gv : Value} (h : RdA H (.sl (.int .u8)) gv) : ∃ l : List UInt8, RB H gv l ∧ l.length ≤ maxLen := by
  obtain ⟨l, k1, k2, k3⟩ := h.ints_
  refine ⟨l.map fun n => UInt8.ofNat n.toNat, ?_, by simpa using k2.1⟩
  show GArg1 H 1 gv (l.map fun n => UInt8.ofNat n.toNat).length _
  rw [List.length_map, ← ints_u8s k3]; exact k1
theorem RdA.bytesR_ {H : GHeap} {gv : Value} (h : RdA H (.sl (.int .u8)) gv) : ∃ l : List UInt8, RB H gv l ∧ l.length ≤ 140737488351232 := by
  obtain ⟨l, k1, k2, k3⟩ := h.ints_
  have k4 := k2.2
  simp only [IntKind.bits, reachBytes] at k4
  refine ⟨l.map fun n => UInt8.ofNat n.toNat, ?_, by simp only [List.length_map]; omega⟩
  show GArg1 H 1 gv (l.map fun n => UInt8.ofNat n.toNat).length _
  rw [List.length_map, ← ints_u8s k3]; exact k1
theorem GArg1.ids {H : GHeap} (hw : H.wf) {s n : Nat} {v : Value} {xs : List Value} (h : GArg1 H s v n xs) : ∀ a ∈ idOf v, a < H.len := by
  intro a ha
  obtain ⟨a', gc, rfl, _, k0, k⟩ := h.sl
  obtain ⟨_, a2, gc2, e, h3⟩ := h.rd
  cases e
  have hform : a' = none ∨ ∃ i o, a' = some ⟨i, o, none⟩ := by
    rcases Nat.eq_zero_or_pos n with h0 | h0
    · exact k0 h0
    · obtain ⟨i, o, _, e, _⟩ := h3 h0; exact .inr ⟨i, o, e⟩
  rcases hform with rfl | ⟨i, o, rfl⟩
  · simp [idOf] at ha
  · simp only [idOf, List.mem_singleton] at ha
    subst ha
    obtain ⟨u, hu, _⟩ := k _ _ rfl
    refine (hw.2 _).1 ?_
    unfold GHeap.unit at hu
    cases ho : H.obj a with
    | none => rw [ho] at hu; cases hu
    | some x => rfl
theorem GArg1.back {H H' : GHeap} {s n : Nat} {v : Value} {xs : List Value} (h : GArg1 H' s v n xs) (hs : Same H H') (ha : ∀ a ∈ idOf v, a < H.len) : GArg1 H s v n xs := by
  obtain ⟨⟨h1, a, gc, rfl, h3⟩, a', gc', e, k0, k1, k2⟩ := h
  cases e
  refine ⟨⟨h1, a, gc, rfl, fun hn => ?_⟩, a, gc, rfl, k0, k1, fun i o he => ?_⟩
  · obtain ⟨i, o, cs, rfl, hi, hcs, hx⟩ := h3 hn
    have hl := ha i (by simp [idOf])
    exact ⟨i, o, cs, rfl, hl, by rw [← hs.cs hl]; exact hcs, hx⟩
  · subst he
    have hl := ha i (by simp [idOf])
    obtain ⟨u, hu, hu2⟩ := k2 i o rfl
    refine ⟨u, ?_, hu2⟩
    unfold GHeap.unit at hu ⊢
    rw [← hs.obj i hl]; exact hu
/-! ### writes as an argument -/
structure WrE where
  c : Bool
  v : Value
  p : List UInt8
instance : Inhabited WrE := ⟨⟨false, .slice none 0 0, []⟩⟩
def wrC (x : WrE) : List Value := [.bool x.c, x.v]
theorem wrC_len (x : WrE) : (wrC x).length = 2 := rfl
def wrShp : Shp := .st [.bool, .sl (.int .u8)]
theorem wr_of {H : GHeap} {gv : Value} (h : RdA H (.sl wrShp) gv) : ∃ L : List WrE, GArg1 H 2 gv L.length (L.flatMap wrC) ∧ ∀ x ∈ L, RB H x.v x.p ∧ x.p.length ≤ maxLen := by
  obtain ⟨l, k1, k2, k3⟩ := h.sl_ (f := fun x : Bool × Value => [.bool x.1, x.2]) fun r hr => by
    simp only [wrShp, RdS, RdSs] at hr
    obtain ⟨_, _, rfl, ⟨b, rfl⟩, _, _, rfl, ⟨v, rows, rfl, _⟩, rfl⟩ := hr
    exact ⟨(b, v), rfl⟩
  have key : ∀ l : List (Bool × Value), (∀ x ∈ l, RdS H wrShp [.bool x.1, x.2]) → ∃ L : List WrE, L.map (fun e => (e.c, e.v)) = l ∧ ∀ x ∈ L, RB H x.v x.p ∧ x.p.length ≤ maxLen := by
    intro l
    induction l with
    | nil => intro _; exact ⟨[], rfl, by simp⟩
    | cons x l ih =>
      intro hx
      obtain ⟨L, e, hL⟩ := ih fun y hy => hx y (by simp [hy])
      have h1 := hx x (by simp)
      simp only [wrShp, RdS, RdSs] at h1
      obtain ⟨_, _, e1, ⟨b, rfl⟩, _, _, rfl, h2, rfl⟩ := h1
      simp only [List.cons_append, List.nil_append, List.cons.injEq, List.append_nil] at e1
      have h3 : RdA H (.sl (.int .u8)) x.2 := by
        obtain ⟨v, rows, e3, h4⟩ := h2
        rw [e3] at e1
        simp only [List.cons.injEq, and_true] at e1
        rw [e1.2]
        exact ⟨v, rows, by simp, h4⟩
      obtain ⟨p, hp1, hp2⟩ := h3.bytes_
      refine ⟨⟨x.1, x.2, p⟩ :: L, by simp [e], fun y hy => ?_⟩
      rcases List.mem_cons.1 hy with rfl | hy
      · exact ⟨hp1, hp2⟩
      · exact hL y hy
  obtain ⟨L, rfl, hL⟩ := key l k3
  refine ⟨L, ?_, hL⟩
  rw [List.length_map, List.flatMap_map] at k1
  exact k1
theorem wr_of' {H : GHeap} {gv : Value} (h : RdA H (.sl wrShp) gv) : ∃ L : List WrE, GArg1 H 2 gv L.length (L.flatMap wrC) ∧ (∀ x ∈ L, RB H x.v x.p ∧ x.p.length ≤ maxLen) ∧ L.length ≤ maxLen := by
  obtain ⟨L, h1, h2⟩ := wr_of h
  obtain ⟨l, k1, k2, _⟩ := h.sl_ (f := fun x : Bool × Value => [.bool x.1, x.2]) fun r hr => by
    simp only [wrShp, RdS, RdSs] at hr
    obtain ⟨_, _, rfl, ⟨b, rfl⟩, _, _, rfl, ⟨v, rows, rfl, _⟩, rfl⟩ := hr
    exact ⟨(b, v), rfl⟩
  refine ⟨L, h1, h2, ?_⟩
  have e1 := h1.rd.isSl.len
  have e2 := k1.rd.isSl.len
  rw [e1] at e2
  simp only [Option.some.injEq, Value.int.injEq, true_and] at e2
  omega
theorem awake_ok (H : GHeap) : ∃ r H', gev G 10 [] H = some (r, H') ∧ (r = .bool true ∧ H = H') := ⟨_, _, awake_gev H, rfl, rfl⟩
/-! ### tables of wanted records -/
structure Want (H0 H : GHeap) (v : Value) (L : List RP) : Prop where
  own : OS 3 3 H0 H v L.length (L.flatMap recC)
  data : ∀ x ∈ L, RB H0 x.2 x.1.data
theorem Want.r {H0 H : GHeap} {v : Value} {L : List RP} (h : Want H0 H v L) (hw : H0.wf) : RecR H v L :=
  ⟨h.own.rd, fun x hx => (h.data x hx).same_ hw h.own.same⟩
theorem JAt.but {H H' : GHeap} {i j gc k : Nat} {m : JM} {l : JL} {S : Nat → Prop} (h : JAt H i j gc k m l) (hb : But S H H') (hs : ∀ z, jo i j k z → ¬ S z) : JAt H' i j gc k m l :=
  ⟨hb.wf, ⟨by rw [hb.mine (mine_lt h.wf h.mem.obj) (hs i (.inl rfl))]; exact h.mem.obj, by rw [hb.mine (mine_lt h.wf h.mem.dat) (hs j (.inr (.inl rfl)))]; exact h.mem.dat, h.mem.ne, h.mem.cap, h.mem.big, h.mem.low⟩,
    h.log.but h.wf hb (hs k (.inr (.inr rfl))), h.ne⟩
/-- no table is a journal's -/
theorem JAt.apart {H : GHeap} {i j gc k : Nat} {m : JM} {l : JL} (h : JAt H i j gc k m l) {H0 : GHeap} {v : Value} {n : Nat} {xs : List Value} (ho : OS 3 3 H0 H v n xs) : ∀ a ∈ idOf v, ¬ jo i j k a := by
  intro a ha
  have hm := (ho.ids ha).2.2
  rintro (e | e | e)
  · exact mine_ne hm h.mem.obj (by decide) e
  · exact mine_ne hm h.mem.dat (by decide) e
  · exact mine_ne hm h.log (by decide) e
theorem Want.but {H0 H H' : GHeap} {v : Value} {L : List RP} {S : Nat → Prop} (h : Want H0 H v L) (hb : But S H H') (h0 : ∀ k, k < H0.len → ¬ S k) (ha : ∀ a ∈ idOf v, ¬ S a) : Want H0 H' v L :=
  ⟨h.own.but hb h0 ha, h.data⟩
theorem Want.later {H0 H H' : GHeap} {v : Value} {L : List RP} (h : Want H0 H v L) (hs : Same H H') : Want H0 H' v L := ⟨h.own.later hs, h.data⟩
theorem Want.snoc {H0 H : GHeap} {v : Value} {L : List RP} (h : Want H0 H v L) {x : RP} (hx : RB H0 x.2 x.1.data) (hl : L.length < 1000000) :
    ∃ v' H', gapp 3 40 3 (H.add (some (.cells (recC x) 3 true))) v (.slice (some ⟨H.len, 0, none⟩) 1 2) = some (v', H') ∧ Want H0 H' v' (L ++ [x]) ∧ But (fun j => j ∈ idOf v) H H' := by
  obtain ⟨v', H', e, hO, hB⟩ := h.own.app1 (by decide) (by decide) (recC_len x) (b := 40) (by omega) (by omega)
  refine ⟨v', H', e, ⟨?_, fun y hy => ?_⟩, hB⟩
  · rw [List.length_append, List.flatMap_append]
    simpa using hO
  · rcases List.mem_append.1 hy with hy | hy
    · exact h.data y hy
    · rw [List.mem_singleton.1 hy]; exact hx
theorem Want.one {H0 H : GHeap} (hs : Same H0 H) {x : RP} (hx : RB H0 x.2 x.1.data) : Want H0 (H.add (some (.cells (recC x) 3 true))) (.slice (some ⟨H.len, 0, none⟩) 1 2) [x] :=
  ⟨⟨hs.add _, ⟨by simp [recC], .inr ⟨H.len, 2, rfl, .inr rfl, by simpa using mine_add_eq (cs := recC x) (u := 3) rfl hs.wf.1⟩⟩, .inr hs.len⟩, fun y hy => by rw [List.mem_singleton.1 hy]; exact hx⟩
/-! ### what the laws do to a journal's memory besides -/
theorem GRd.but {H H' : GHeap} {s n : Nat} {v : Value} {xs : List Value} {S : Nat → Prop} (h : GRd H s v n xs) (hb : But S H H') (ha : ∀ a ∈ idOf v, ¬ S a) : GRd H' s v n xs := by
  obtain ⟨h1, a, gc, rfl, h3⟩ := h
  refine ⟨h1, a, gc, rfl, fun hn => ?_⟩
  obtain ⟨i, o, cs, rfl, hi, hcs, hx⟩ := h3 hn
  refine ⟨i, o, cs, rfl, Nat.lt_of_lt_of_le hi hb.len, ?_, hx⟩
  unfold GHeap.cs at hcs ⊢
  rw [hb.obj i hi (ha i (by simp [idOf]))]; exact hcs
/-- records that were read stay, whatever is done to the journal -/
theorem RecT.keep {H0 H H' : GHeap} {v : Value} {L : List RP} {i j gc k : Nat} {m : JM} {l : JL} (h : RecT H0 H v L) (hJ : JAt H i j gc k m l) (hi : i < H0.len) (hj : j < H0.len) (hb : But (jo i j k) H H') : RecR H' v L := by
  refine ⟨h.own.rd.but hb (hJ.apart h.own), fun x hx => ?_⟩
  obtain ⟨q, n, gc', full, e, h1, h2, h3, _⟩ := h.data x hx
  refine h1.but h.own.same.wf hb fun a ha => ?_
  rw [e] at ha
  simp only [idOf, List.mem_singleton] at ha
  subst ha
  rintro (e2 | e2 | e2)
  · omega
  · omega
  · exact mine_ne h3 hJ.log (by decide) e2
theorem JAt.memBut {H H' : GHeap} {i j gc k : Nat} {m m' : JM} {l : JL} (h : JAt H i j gc k m l) (hm : MemAt H' i j gc m') (hb : But (mo i j) H H') : JAt H' i j gc k m' l :=
  ⟨hb.wf, hm, h.log.but h.wf hb (by rintro (e | e); exact h.ne e; exact h.nj e), h.ne⟩
theorem JAt.arm {H : GHeap} {i j gc k : Nat} {m : JM} {l : JL} (h : JAt H i j gc k m l) {n : Nat} (hn : n < 1000) :
    ∃ r H', gev G 20 [ptr i, .int .i64 n] H = some (r, H') ∧ (JAt H' i j gc k {m with armed := true, left := (n : Int)} l ∧ But (jo i j k) H H') := by
  obtain ⟨r, H', e, h1, h2⟩ := arm_ok h.wf h.mem (n := (n : Int)) (by omega)
  rw [show max (n : Int) 0 = n by omega] at h1
  exact ⟨r, H', e, h.memBut h1 h2, h2.mono mo_jo⟩
theorem JAt.on {H : GHeap} {i j gc k : Nat} {m : JM} {l : JL} (h : JAt H i j gc k m l) :
    ∃ r H', gev G 21 [ptr i] H = some (r, H') ∧ (JAt H' i j gc k {m with armed := false, left := 0, off := false} l ∧ But (jo i j k) H H') := by
  obtain ⟨r, H', e, h1, h2⟩ := on_ok h.wf h.mem
  exact ⟨r, H', e, h.memBut h1 h2, h2.mono mo_jo⟩
theorem GArg1.but {H H' : GHeap} {s n : Nat} {v : Value} {xs : List Value} {S : Nat → Prop} (h : GArg1 H s v n xs) (hw : H.wf) (hb : But S H H') (ha : ∀ a ∈ idOf v, ¬ S a) : GArg1 H' s v n xs := by
  refine ⟨h.rd.but hb ha, ?_⟩
  obtain ⟨a, gc, rfl, k0, k1, k2⟩ := h.sl
  refine ⟨a, gc, rfl, k0, k1, fun i o he => ?_⟩
  subst he
  obtain ⟨u, hu, hu2⟩ := k2 i o rfl
  refine ⟨u, ?_, hu2⟩
  unfold GHeap.unit at hu ⊢
  have hi : i < H.len := (hw.2 i).1 (by cases ho : H.obj i <;> simp_all)
  rw [hb.obj i hi (ha i (by simp [idOf]))]; exact hu
theorem RecR.later {H H' : GHeap} {v : Value} {L : List RP} (h : RecR H v L) (hw : H.wf) (hs : Same H H') : RecR H' v L := ⟨h.rd.same hs, fun x hx => (h.data x hx).same_ hw hs⟩
theorem rows_take {α : Type} {f : α → List Value} {s : Nat} (hf : ∀ x, (f x).length = s) : ∀ (l : List α) (n : Nat), (l.flatMap f).take (n * s) = (l.take n).flatMap f
  | [], n => by simp
  | x :: l, 0 => by simp
  | x :: l, n + 1 => by
    rw [List.flatMap_cons, List.take_succ_cons, List.flatMap_cons, Nat.add_mul, Nat.one_mul, Nat.add_comm, ← rows_take hf l n]
    rw [List.take_append, hf x, Nat.add_sub_cancel_left, List.take_of_length_le (by rw [hf x]; omega)]
theorem GArg1.first {α : Type} {f : α → List Value} {s : Nat} (hf : ∀ x, (f x).length = s) {H : GHeap} {v : Value} {l : List α} (h : GArg1 H s v l.length (l.flatMap f)) {k : IntKind} {b : Int} (h0 : 0 ≤ b) (hb : b ≤ l.length) :
    ∃ v', gslice (.sl s) H v none (some (.int k b)) none = some v' ∧ GArg1 H s v' (l.take b.toNat).length ((l.take b.toNat).flatMap f) ∧ (∀ a ∈ idOf v', a ∈ idOf v) := by
  obtain ⟨v', e1, e2, _⟩ := GArg1.cut h (k := k) (Int.le_refl 0) h0 hb
  have e3 : gslice (.sl s) H v none (some (.int k b)) none = some v' := by
    rw [gslice_lo0 (k := k) (by intro x hx; cases hx; exact ⟨_, _, rfl⟩)]; exact e1
  refine ⟨v', e3, ?_, gslice_ids e3⟩
  have hl : (l.take b.toNat).length = b.toNat := by simp; omega
  rw [hl]
  simpa [rows_take hf] using e2
/-- several elements, appended -/
theorem OS.appN {s u n m : Nat} {H0 H : GHeap} {v x : Value} {xs news : List Value} (h : OS s u H0 H v n xs) (hu : u ≠ 0) (hs : s ≠ 0) (hx : GArg1 H s x m news) {b : Nat} (hb : (n + m) * b ≤ 140737488355328) (hk : n + m < 140737488355328) :
    ∃ v' H', gapp s b u H v x = some (v', H') ∧ OS s u H0 H' v' (n + m) (xs ++ news) ∧ But (fun j => j ∈ idOf v) H H' := by
  have hw := h.same.wf
  have hg := gcells_arg hx
  have hlen := hx.rd.1
  have hct : gcount x = some m := by obtain ⟨a, gc, rfl, _⟩ := hx.sl; rfl
  by_cases hm : m = 0
  · subst hm
    have hnil : news = [] := List.eq_nil_of_length_eq_zero (by rw [hlen, Nat.zero_mul])
    subst hnil
    refine ⟨v, H, ?_, by simpa using h, But.refl hw⟩
    have : ∃ av gc, v = .slice av n gc := by
      rcases h.own.at_ with ⟨e, e2⟩ | ⟨i, gc, e, _⟩
      · exact ⟨none, 0, by rw [e, e2]⟩
      · exact ⟨_, _, e⟩
    obtain ⟨av, gc, rfl⟩ := this
    simp only [gapp, hct, Option.bind_some, hg]
    rfl
  obtain ⟨v', H', k1, k2, k3, k4, k5, k6, k7⟩ := gapp_own (bytes := b) (m := m) (x := x) (news := news) hw h.own hu hs hct hg hlen (by omega) hb (by omega)
  have key : ∀ j, j < H.len → ¬ j ∈ idOf v → H'.obj j = H.obj j := fun j hj hne => by
    refine k7 j hj ?_
    rcases h.own.at_ with ⟨e, _⟩ | ⟨i, gc, e, _⟩
    · exact .inr e
    · refine .inl fun e2 => hne ?_
      rw [e2, e]; simp [idOf, blk]
  refine ⟨v', H', k1, ⟨?_, k2, .inr (by rw [k6]; exact h.same.len)⟩, ⟨k4, by omega, key, k3⟩⟩
  refine h.same.of_obj k3 k4 (by omega) fun j hj => ?_
  refine key j (Nat.lt_of_lt_of_le hj h.same.len) fun hv => ?_
  have := (h.ids hv).1
  omega
theorem RecT.arg {H0 H : GHeap} {v : Value} {L : List RP} (h : RecT H0 H v L) : GArg1 H 3 v L.length (L.flatMap recC) := OwnG.arg h.own.same.wf h.own.own (.inr rfl)
end Go.Gh
