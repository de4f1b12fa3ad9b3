/-
  The reference's journal, walked: Append.
-/
import Derived.Test.YtbficpmoppailaaJnR5
namespace Go.Gh
set_option linter.unusedSimpArgs false
set_option linter.unusedVariables false
set_option maxHeartbeats 4000000
open Go.RowKit
set_option maxRecDepth 4000

theorem setF_comm {α : Type} : ∀ (k : Nat) (t : Tr α) (n m : Nat) (x y : α), n ≤ k → m ≤ k → n ≠ m → Tr.setF k (Tr.setF k t n x) m y = Tr.setF k (Tr.setF k t m y) n x := by
  intro k
  induction k with
  | zero => intro t n m x y h1 h2 h3; omega
  | succ k ih =>
    intro t n m x y a1 a2 a3
    cases t <;> simp only [Tr.setF] <;> cases h0 : n == 0 <;> cases h1 : n % 2 == 1 <;> cases g0 : m == 0 <;> cases g1 : m % 2 == 1 <;> simp only [cond_true, cond_false, Tr.setF, h0, h1, g0, g1] <;> simp only [beq_iff_eq, beq_eq_false_iff_ne, ne_eq] at h0 h1 g0 g1 <;> first | rfl | (exfalso; omega) | (rw [ih _ _ _ _ _ (by omega) (by omega) (by omega)])
theorem jput_comm {H : GHeap} {i j : Nat} {a b : GObj} (h : i ≠ j) : (H.put j b).put i a = (H.put i a).put j b := by
  simp only [GHeap.put, Tr.set]
  congr 1
  rw [← Tr.setF_fuel (max i j) H.t j b (by omega), ← Tr.setF_fuel (max i j) H.t i a (by omega), ← Tr.setF_fuel (max i j) _ i a (by omega), ← Tr.setF_fuel (max i j) _ j b (by omega)]
  exact setF_comm _ _ _ _ _ _ (by omega) (by omega) (by omega)
/-- a slice's object out of sight -/
theorem GW_hideB {call : GCall} {fr : Fr} {H : GHeap} {ks : List Kt} {R : Fr → GHeap → Prop} {x : GArg} {v : Value} {p : List UInt8} {pre : List GOper} {post : List (Bool × GOper)} (hw : H.wf) (hp : RB H v p) (hv : x.ev fr = some v)
    (h : ∀ (Hd : GHeap) (hid : List Nat) (bk : GHeap → GHeap), bk Hd = H → (∀ k, ¬ k ∈ idOf v → Hd.mine k = H.mine k) → Gw (gdoM call) pre (fun fr' H' => Gp call hid post (GN call ks R) fr' (bk H')) fr Hd) : GW call (.any [x] pre post) ks R fr H := by
  obtain ⟨a, gc, rfl, _, h0, hu⟩ := hp.sl
  cases a with
  | none => exact GW_hideN (by simp [hidden, hv, idOf]) (h H [] id rfl fun _ _ => rfl)
  | some q =>
    obtain ⟨i, o, rfl⟩ : ∃ i o, q = ⟨i, o, none⟩ := by
      obtain ⟨_, a, gc2, e, h3⟩ := hp.rd
      cases e
      by_cases hn : p.length = 0
      · rcases h0 hn with e | ⟨i, o, e⟩
        · cases e
        · exact ⟨i, o, Option.some.inj e⟩
      · obtain ⟨i, o, _, e, _⟩ := h3 (by omega)
        exact ⟨i, _, Option.some.inj e⟩
    obtain ⟨u, hu, _⟩ := hu i o rfl
    cases hob : H.obj i with
    | none => rw [GHeap.unit, hob] at hu; cases hu
    | some ob =>
      refine GW_hideO (i := i) hv rfl (obj_lt hw hob) hob (h _ [i] (fun H' => H'.put i ob) ?_ fun k hk => ?_)
      · rw [put_put]; exact put_self hob
      · rw [mine_put_ne]
        simp only [idOf, List.mem_singleton] at hk
        omega
/-- the reference's Append and Compact under way: the memory's value, the log's, and the objects of the results -/
structure AS (H HX : GHeap) (dv : Value) (m : JM) (l : JL) : Prop where
  same : Same H HX
  m3 : HX.mine H.len = some (rmC dv m, 0)
  m4 : HX.mine (H.len + 1) = some (rlC l, 0)
  m6 : HX.mine (H.len + 1 + 1) = some (z5, 0)
  m7 : HX.mine (H.len + 1 + 1 + 1) = some (z6, 0)
section
variable {H HX HY : GHeap} {dv : Value} {m : JM} {l : JL}
theorem AS.start (hw : H.wf) : AS H ((((H.add (some (.cells (rmC dv m) 0 true))).add (some (.cells (rlC l) 0 true))).add (some (.cells z5 0 true))).add (some (.cells z6 0 true))) dv m l := by
  have hlim := hw.1
  refine ⟨((((Same.refl hw).add _).add _).add _).add _, ?_, ?_, ?_, ?_⟩
  · rw [mine_add_ne (by simp only [len_add]; omega), mine_add_ne (by simp only [len_add]; omega), mine_add_ne (by simp only [len_add]; omega)]
    exact mine_add_eq rfl hlim
  · rw [mine_add_ne (by simp only [len_add]; omega), mine_add_ne (by simp only [len_add]; omega)]
    exact mine_add_eq (by simp only [len_add]) (by simp only [lim_add]; omega)
  · rw [mine_add_ne (by simp only [len_add]; omega)]
    exact mine_add_eq (by simp only [len_add]) (by simp only [lim_add]; omega)
  · exact mine_add_eq (by simp only [len_add]) (by simp only [lim_add]; omega)
theorem AS.later (h : AS H HX dv m l) (hs : Same HX HY) : AS H HY dv m l := by
  have hw := h.same.wf
  exact ⟨h.same.trans hs, by rw [hs.mine (mine_lt hw h.m3)]; exact h.m3, by rw [hs.mine (mine_lt hw h.m4)]; exact h.m4, by rw [hs.mine (mine_lt hw h.m6)]; exact h.m6, by rw [hs.mine (mine_lt hw h.m7)]; exact h.m7⟩
theorem AS.but (h : AS H HX dv m l) {d0 : Value} {x : List UInt8} (hO : OB H HX d0 x) (hB : But (fun z => z ∈ idOf d0) HX HY) (hS : Same H HY) : AS H HY dv m l := by
  have hw := h.same.wf
  have hk : ∀ a cs, HX.mine a = some (cs, 0) → HY.mine a = some (cs, 0) := fun a cs hm => by
    rw [hB.mine (mine_lt hw hm) fun ha => ?_]
    · exact hm
    · obtain ⟨cs', h1⟩ := hO.u257 a ha
      rw [hm] at h1
      simp at h1
  exact ⟨hS, hk _ _ h.m3, hk _ _ h.m4, hk _ _ h.m6, hk _ _ h.m7⟩
theorem AS.put3 (h : AS H HX dv m l) (d2 : Value) (m2 : JM) : AS H (HX.put H.len (.cells (rmC d2 m2) 0 true)) d2 m2 l := by
  refine ⟨h.same.put (Nat.le_refl _) (mine_lt h.same.wf h.m3) _, mine_put_same (mine_obj h.m3).1, ?_, ?_, ?_⟩
  · rw [mine_put_ne (by omega)]; exact h.m4
  · rw [mine_put_ne (by omega)]; exact h.m6
  · rw [mine_put_ne (by omega)]; exact h.m7
theorem AS.put4 (h : AS H HX dv m l) (l2 : JL) : AS H (HX.put (H.len + 1) (.cells (rlC l2) 0 true)) dv m l2 := by
  refine ⟨h.same.put (by omega) (mine_lt h.same.wf h.m4) _, ?_, mine_put_same (mine_obj h.m4).1, ?_, ?_⟩
  · rw [mine_put_ne (by omega)]; exact h.m3
  · rw [mine_put_ne (by omega)]; exact h.m6
  · rw [mine_put_ne (by omega)]; exact h.m7
theorem AS.rds (h : AS H HX dv m l) : HX.rdn H.len 0 5 = some (rmV dv m) ∧ HX.rdn (H.len + 1) 0 6 = some (rlV l) ∧ HX.rd H.len 0 = some (.int .i64 (m.size : Int)) ∧ HX.rd H.len 4 = some (.bool m.off) ∧ HX.rd (H.len + 1) 0 = some (.int .i64 (l.bank : Int)) ∧ HX.rd (H.len + 1) 1 = some (.int .i64 (l.fin : Int)) ∧ HX.rd (H.len + 1) 2 = some (.int .i64 (l.next : Int)) ∧ HX.rd (H.len + 1) 3 = some (.int .u64 (l.gen : Int)) :=
  ⟨rm_rdn h.m3, rl_rdn h.m4, mine_rd h.m3, mine_rd h.m3, mine_rd h.m4, mine_rd h.m4, mine_rd h.m4, mine_rd h.m4⟩
/-- the end: the two values into the results' objects -/
def ASF (H HX : GHeap) (dv : Value) (m : JM) (l : JL) : GHeap := (HX.put (H.len + 1 + 1) (.cells (rmC dv m) 0 true)).put (H.len + 1 + 1 + 1) (.cells (rlC l) 0 true)
theorem AS.end (h : AS H HX dv m l) (hd : flatV dv = true) :
    gsetn z5 0 5 (rmV dv m) = some (rmC dv m) ∧ (HX.put (H.len + 1 + 1) (.cells (rmC dv m) 0 true)).mine (H.len + 1 + 1 + 1) = some (z6, 0) ∧ gsetn z6 0 6 (rlV l) = some (rlC l) ∧ (ASF H HX dv m l).rdn (H.len + 1 + 1) 0 5 = some (rmV dv m) ∧ (ASF H HX dv m l).rdn (H.len + 1 + 1 + 1) 0 6 = some (rlV l) ∧ Same H (ASF H HX dv m l) := by
  have hw := h.same.wf
  have hm7 : (HX.put (H.len + 1 + 1) (.cells (rmC dv m) 0 true)).mine (H.len + 1 + 1 + 1) = some (z6, 0) := by rw [mine_put_ne (by omega)]; exact h.m7
  have hS2 := h.same.put (i := H.len + 1 + 1) (by omega) (mine_lt hw h.m6) (.cells (rmC dv m) 0 true)
  refine ⟨rm_gset rfl hd, hm7, rl_gset rfl, rm_rdn ?_, rl_put, hS2.put (by omega) (mine_lt hS2.wf hm7) _⟩
  rw [ASF, mine_put_ne (by omega)]
  exact mine_put_same (mine_obj h.m6).1
theorem OB.asf {x : List UInt8} (hO : OB H HX dv x) (h : AS H HX dv m l) : OB H (ASF H HX dv m l) dv x :=
  (hO.put0 (by omega) h.m6 _).put0 (k := H.len + 1 + 1 + 1) (by omega) (cs := z6) (by rw [mine_put_ne (by omega)]; exact h.m7) _
/-- with the first of them out of sight -/
theorem AS.hid (h : AS H HX dv m l) : HX.obj (H.len + 1 + 1) = some (.cells z5 0 true) ∧ H.len + 1 + 1 < HX.len ∧ (HX.put (H.len + 1 + 1) (.dead 0)).rdn H.len 0 5 = some (rmV dv m) ∧ (HX.put (H.len + 1 + 1) (.dead 0)).rdn (H.len + 1) 0 6 = some (rlV l) ∧ (HX.put (H.len + 1 + 1) (.dead 0)).put (H.len + 1 + 1) (.cells z5 0 true) = HX := by
  have hob := (mine_obj h.m6).2
  refine ⟨hob, mine_lt h.same.wf h.m6, rm_rdn (by rw [mine_put_ne (by omega)]; exact h.m3), rl_rdn (by rw [mine_put_ne (by omega)]; exact h.m4), ?_⟩
  rw [put_put]; exact put_self hob
theorem AS.hid2 (h : AS H HX dv m l) : HX.obj (H.len + 1 + 1 + 1) = some (.cells z6 0 true) ∧ H.len + 1 + 1 + 1 < HX.len ∧ ((HX.put (H.len + 1 + 1) (.dead 0)).put (H.len + 1 + 1 + 1) (.dead 0)).rdn H.len 0 5 = some (rmV dv m) ∧ ((HX.put (H.len + 1 + 1) (.dead 0)).put (H.len + 1 + 1 + 1) (.dead 0)).rdn (H.len + 1) 0 6 = some (rlV l) ∧ ((HX.put (H.len + 1 + 1) (.dead 0)).put (H.len + 1 + 1 + 1) (.dead 0)).rd (H.len + 1) 2 = some (.int .i64 (l.next : Int)) ∧ (((HX.put (H.len + 1 + 1) (.dead 0)).put (H.len + 1 + 1 + 1) (.dead 0)).put (H.len + 1 + 1) (.cells z5 0 true)).put (H.len + 1 + 1 + 1) (.cells z6 0 true) = HX := by
  have hob := (mine_obj h.m6).2
  have hob7 := (mine_obj h.m7).2
  have h4 : ((HX.put (H.len + 1 + 1) (.dead 0)).put (H.len + 1 + 1 + 1) (.dead 0)).mine (H.len + 1) = some (rlC l, 0) := by rw [mine_put_ne (by omega), mine_put_ne (by omega)]; exact h.m4
  refine ⟨hob7, mine_lt h.same.wf h.m7, rm_rdn (by rw [mine_put_ne (by omega), mine_put_ne (by omega)]; exact h.m3), rl_rdn h4, mine_rd h4, ?_⟩
  rw [jput_comm (by omega), put_put, jput_comm (by omega), put_put]
  rw [put_self (o := .cells z5 0 true) (by exact hob)]
  exact put_self hob7
end
theorem RB.idlt {H : GHeap} (hw : H.wf) {v : Value} {p : List UInt8} (h : RB H v p) : ∀ a ∈ idOf v, a < H.len := GArg1.ids hw h
theorem rwrite1 {H0 H : GHeap} {dv : Value} {m : JM} (hO : OB H0 H dv m.data) (hlow : 128 ≤ m.data.length) (hbig : m.data.length < 70368744177664) (b : UInt8) {o : Nat} (ho : o + 1 ≤ m.data.length) :
    ∃ r H', gev G 51 [rmV dv m, .int .i64 o, .slice (some ⟨H.len, 0, none⟩) 1 2] (H.add (some (.cells [.int .u8 b.toNat] 257 true))) = some (r, H') ∧ (r = rmV dv (wrR m [(o, b)]) ∧ OB H0 H' dv (wrR m [(o, b)]).data ∧ But (fun z => z ∈ idOf dv) H H') := by
  have hw := hO.same.wf
  have hS := (Same.refl hw).add (.cells [.int .u8 b.toNat] 257 true)
  obtain ⟨r, H', e, h1, h2, h3⟩ := rwrite_ok (hO.later hS) hlow hbig (RB.one hw b) (p := [b]) (o := o) (by
    intro a ha hb
    simp only [idOf, List.mem_singleton] at ha
    subst ha
    have := hO.rb.idlt hw _ hb
    omega) (by simpa using ho)
  exact ⟨r, H', e, h1, h2, (But.of hS).trans h3⟩
theorem AS.wrote {H HX HY : GHeap} {dv : Value} {m m' : JM} {l : JL} (h : AS H HX dv m l) (hO : OB H HX dv m.data) (hO' : OB H HY dv m'.data) (hB : But (fun z => z ∈ idOf dv) HX HY) :
    HY.mine H.len = some (rmC dv m, 0) ∧ gsetn (rmC dv m) 0 5 (rmV dv m') = some (rmC dv m') ∧ AS H (HY.put H.len (.cells (rmC dv m') 0 true)) dv m' l ∧ OB H (HY.put H.len (.cells (rmC dv m') 0 true)) dv m'.data := by
  have h2 := h.but hO hB hO'.same
  exact ⟨h2.m3, rm_gset rfl hO.rb.flat, h2.put3 dv m', hO'.put0 (Nat.le_refl _) h2.m3 _⟩
/-- what the reference's Append answers -/
def rappJ (m : JM) (l : JL) (p : List UInt8) : JM × JL × Nat × Int :=
  let e := refR m l l.fin p.length
  if e ≠ 0 then (m, l, 0, e) else
  let r := wrR m (appW m l p)
  if r.off = true then (r, l.broke, 0, 21) else (r, {l with fin := l.fin + 17 + p.length, next := l.next + 1}, l.next, 0)
theorem refR_cases (m : JM) (l : JL) (o n : Nat) : (refR m l o n = 9 ∨ refR m l o n = 20 ∨ refR m l o n = 21) ∨ (refR m l o n = 0 ∧ l.next ≤ 1099511627776 ∧ o + 17 + n < m.size ∧ l.broken = false) := by
  unfold refR
  by_cases h1 : 1099511627776 < l.next
  · rw [if_pos h1]; simp
  · rw [if_neg h1]
    by_cases h2 : m.size ≤ o + 17 + n
    · rw [if_pos h2]; simp
    · rw [if_neg h2]
      cases hb : l.broken <;> simp <;> omega
/-- what the reference's writers return -/
def RWOut (H H' : GHeap) (dv : Value) (r : Value) (x : JM × JL × Nat × Int) : Prop :=
  ∃ dv', r = .tuple #[rmV dv' x.1, rlV x.2.1, .int .i64 (x.2.2.1 : Nat), .int .i64 x.2.2.2] ∧ RB H' dv' x.1.data ∧ Same H H' ∧ ∀ a ∈ idOf dv', a ∈ idOf dv ∨ H.len ≤ a
theorem OB.young' {H H' : GHeap} {v : Value} {l : List UInt8} (h : OB H H' v l) : ∀ a ∈ idOf v, H.len ≤ a := fun a ha => by
  rcases h.young with e | e
  · rw [e] at ha; simp [idOf] at ha
  · rcases h.own.at_ with ⟨e2, _⟩ | ⟨i, gc, e2, _⟩
    · rw [e2] at ha; simp [idOf] at ha
    · rw [e2] at ha e
      simp only [idOf, List.mem_singleton] at ha
      subst ha; exact e
set_option maxHeartbeats 2000000 in
theorem rappend_ok {H : GHeap} (hw : H.wf) {dv : Value} {m : JM} {l : JL} (h : RM H dv m) (hbk : l.bank < 2) (hfin : l.fin < 70368744177664) {v : Value} {p : List UInt8} (hp : RB H v p) (hpl : p.length < 4294967296) :
    ∃ r H', gev G 29 [rmV dv m, rlV l, v] H = some (r, H') ∧ RWOut H H' dv r (rappJ m l p) := by
  refine gev_GW (f := 29) rfl fun Post hPost => ?_
  have hd := h.rb.flat
  have hbig := h.big
  have hlow := h.low
  have hsz : m.size = m.data.length / 2 := rfl
  have h1 := rm_all (m := m) hd
  have h2 := rm_list (dv := dv) (m := m)
  have h3 := rl_all (l := l)
  have h4 := rl_list (l := l)
  have hsl := hp.isSl
  simp only [frameOf, Nat.reduceAdd]
  repeat' (first | (exfalso; omega) | refine zn ?_ | refine zK rfl ?_ | refine zP rfl ?_ | ((first | refine zm ?_ | skip); intro _; intros; simp (disch := first | exact zd | fail) only [↓yS, yT, gresults, gone, ↓reduceIte, Nat.reduceEqDiff, Nat.reduceAdd, Nat.reduceMul, reduceCtorEq, Int.reduceToNat, g29, h1, h2, h3, h4]; first | (rename_i K k; (first | refine yC (k _ _ ?_) | refine zg (k _ ?_)); clear k K) | (rename_i A B C D a b c d; (first | refine zx (a ?_) | refine zy (b ?_) | refine zz (fun hc => c ?_) (fun hc => d ?_) | refine zv (b ?_) | refine zw (a ?_)) <;> clear a b c d A B C D <;> try simp only [yL] at hc)) | refine zA ?_ | refine zB ?_ | refine zF ?_)
  rw [show ([.int .i64 0, .slice none 0 0, .bool false, .int .i64 0, .bool false] : List Value) = z5 from rfl, show ([.int .i64 0, .int .i64 0, .int .i64 0, .int .u64 0, .bool false, .bool false] : List Value) = z6 from rfl]
  have hA := AS.start (dv := dv) (m := m) (l := l) hw
  generalize ((((H.add (some (.cells (rmC dv m) 0 true))).add (some (.cells (rlC l) 0 true))).add (some (.cells z5 0 true))).add (some (.cells z6 0 true))) = H1 at *
  obtain ⟨a1, a2, a3, a4, a5, a6, a7, a8⟩ := hA.rds
  repeat' (first | (exfalso; omega) | refine zn ?_ | refine zK rfl ?_ | refine zP rfl ?_ | ((first | refine zm ?_ | skip); intro _; intros; simp (disch := first | exact zd | fail) only [↓yS, yT, gresults, gone, ↓reduceIte, Nat.reduceEqDiff, Nat.reduceAdd, Nat.reduceMul, reduceCtorEq, Int.reduceToNat, g29, a1, a2, a6]; first | (rename_i K k; (first | refine yC (k _ _ ?_) | refine zg (k _ ?_)); clear k K) | (rename_i A B C D a b c d; (first | refine zx (a ?_) | refine zy (b ?_) | refine zz (fun hc => c ?_) (fun hc => d ?_) | refine zv (b ?_) | refine zw (a ?_)) <;> clear a b c d A B C D <;> try simp only [yL] at hc)) | refine zA ?_ | refine zB ?_ | refine zF ?_)
  refine Gw_s fun K' hK' => G1_call (by simp only [gtarget, ↓GArg.ev, ↓evs, ↓Tr.get_set, Nat.reduceEqDiff, if_true, if_false, ↓reduceIte, Option.map_some]; rfl) (rrefused_ok hA.same.wf hd (m := m) (l := l) hbig (hp.same_ hw hA.same) (o := l.fin) hfin (by omega)) fun r2 H2 hq => hK' _ _ ?_
  obtain ⟨rfl, hS2⟩ := hq
  have hA2 := hA.later hS2
  clear hA a1 a2 a3 a4 a5 a6 a7 a8
  rcases refR_cases m l l.fin p.length with hr | ⟨hr, hr1, hr2, hr3⟩
  · have hne : ¬ refR m l l.fin p.length = 0 := by omega
    have hbn : (refR m l l.fin p.length == 0) = false := by rw [beq_eq_false_iff_ne]; exact hne
    have hE : rappJ m l p = (m, l, 0, refR m l l.fin p.length) := by simp only [rappJ]; rw [if_pos hne]
    generalize refR m l l.fin p.length = e at *
    repeat' (first | (exfalso; omega) | refine zn ?_ | refine zK rfl ?_ | refine zP rfl ?_ | ((first | refine zm ?_ | skip); intro _; intros; simp (disch := first | exact zd | fail) only [↓yS, yT, gresults, gone, ↓reduceIte, Nat.reduceEqDiff, Nat.reduceAdd, Nat.reduceMul, reduceCtorEq, Int.reduceToNat, g29, hne]; first | (rename_i K k; (first | refine yC (k _ _ ?_) | refine zg (k _ ?_)); clear k K) | (rename_i A B C D a b c d; (first | refine zx (a ?_) | refine zy (b ?_) | refine zz (fun hc => c ?_) (fun hc => d ?_) | refine zv (b ?_) | refine zw (a ?_)) <;> clear a b c d A B C D <;> try simp only [yL] at hc)) | refine zA ?_ | refine zB ?_ | refine zF ?_)
    obtain ⟨b1, b2, b3, b4, b5⟩ := hA2.hid
    obtain ⟨c1, c2, c3, c4, c5, c6⟩ := hA2.end hd
    refine GW_hideO (v := ptr (H.len + 1 + 1)) (i := H.len + 1 + 1) (o := .cells z5 0 true) (by simp only [↓GArg.ev, ↓yG, Nat.reduceEqDiff, ↓reduceIte, ptr]) rfl b2 b1 ?_
    rw [show (GObj.cells z5 0 true).unit = 0 from rfl]
    repeat' (first | (exfalso; omega) | refine zn ?_ | refine zK rfl ?_ | refine zP rfl ?_ | ((first | refine zm ?_ | skip); intro _; intros; simp (disch := first | exact zd | fail) only [↓yS, yT, gresults, gone, ↓reduceIte, Nat.reduceEqDiff, Nat.reduceAdd, Nat.reduceMul, reduceCtorEq, Int.reduceToNat, g29, b3, b4]; first | (rename_i K k; (first | refine yC (k _ _ ?_) | refine zg (k _ ?_)); clear k K) | (rename_i A B C D a b c d; (first | refine zx (a ?_) | refine zy (b ?_) | refine zz (fun hc => c ?_) (fun hc => d ?_) | refine zv (b ?_) | refine zw (a ?_)) <;> clear a b c d A B C D <;> try simp only [yL] at hc)) | refine zA ?_ | refine zB ?_ | refine zF ?_)
    rw [put_put, put_self b1]
    refine Gp_0t (by simp [aims, target, idOf, GArg.ev, Tr.get_set]) fun K' hK' => ?_
    simp (disch := first | exact zd | fail) only [↓yS, yT, ↓reduceIte, Nat.reduceEqDiff, Nat.reduceAdd, Nat.reduceMul, reduceCtorEq, Int.reduceToNat, hA2.m6, c1]
    refine G1_go (hK' _ _ ?_)
    clear hK' K'
    repeat' (first | (exfalso; omega) | refine zn ?_ | refine zK rfl ?_ | refine zP rfl ?_ | ((first | refine zm ?_ | skip); intro _; intros; simp (disch := first | exact zd | fail) only [↓yS, yT, gresults, gone, ↓reduceIte, Nat.reduceEqDiff, Nat.reduceAdd, Nat.reduceMul, reduceCtorEq, Int.reduceToNat, g29, c2, c3]; first | (rename_i K k; (first | refine yC (k _ _ ?_) | refine zg (k _ ?_)); clear k K) | (rename_i A B C D a b c d; (first | refine zx (a ?_) | refine zy (b ?_) | refine zz (fun hc => c ?_) (fun hc => d ?_) | refine zv (b ?_) | refine zw (a ?_)) <;> clear a b c d A B C D <;> try simp only [yL] at hc)) | refine zA ?_ | refine zB ?_ | refine zF ?_)
    show GR g29.rets Post _ (ASF H H2 dv m l)
    repeat' (first | (exfalso; omega) | refine zn ?_ | refine zK rfl ?_ | refine zP rfl ?_ | ((first | refine zm ?_ | skip); intro _; intros; simp (disch := first | exact zd | fail) only [↓yS, yT, gresults, gone, ↓reduceIte, Nat.reduceEqDiff, Nat.reduceAdd, Nat.reduceMul, reduceCtorEq, Int.reduceToNat, g29, c4, c5]; first | (rename_i K k; (first | refine yC (k _ _ ?_) | refine zg (k _ ?_)); clear k K) | (rename_i A B C D a b c d; (first | refine zx (a ?_) | refine zy (b ?_) | refine zz (fun hc => c ?_) (fun hc => d ?_) | refine zv (b ?_) | refine zw (a ?_)) <;> clear a b c d A B C D <;> try simp only [yL] at hc)) | refine zA ?_ | refine zB ?_ | refine zF ?_)
    have hRY := (h.rb.same_ hw c6)
    exact hPost _ _ (by rw [hE]; exact ⟨dv, rfl, hRY, c6, fun a ha => .inl ha⟩)
  rw [hr]
  have hE : rappJ m l p = if (wrR m (appW m l p)).off = true then (wrR m (appW m l p), l.broke, 0, 21) else (wrR m (appW m l p), {l with fin := l.fin + 17 + p.length, next := l.next + 1}, l.next, 0) := by
    simp only [rappJ]; rw [if_neg (by omega)]
  have hm1 : l.bank * m.size ≤ m.data.length ∧ l.bank * m.size + m.size ≤ m.data.length := by
    rcases (show l.bank = 0 ∨ l.bank = 1 by omega) with e | e <;> rw [e] <;> omega
  have k1 : ∀ e, gbin .mul e (.int .i64 (l.bank : Int)) (.int .i64 (m.size : Int)) = some (.int .i64 ((l.bank * m.size : Nat) : Int)) := fun e => by
    rw [gb_mul, ← Int.natCast_mul, wr_i64 (by omega)]
  have happ : appW m l p = [(l.bank * m.size + l.fin, 0)] ++ ([(l.bank * m.size + l.fin + 17 + p.length, 0)] ++ (at_ (l.bank * m.size + l.fin + 1) (bodyB l.next p) ++ [(l.bank * m.size + l.fin, 165)])) := rfl
  rw [hE, happ] at hPost
  clear hE happ
  have hob : l.bank * m.size + l.fin + 17 + p.length < m.data.length := by omega
  generalize hoe : l.bank * m.size = q at *
  have k2 : ∀ e, gbin .add e (.int .i64 (q : Int)) (.int .i64 (l.fin : Int)) = some (.int .i64 ((q + l.fin : Nat) : Int)) := fun e => by
    rw [gb_add, wr_i64 (by omega)]; rfl
  generalize ho : q + l.fin = o at *
  have k3 : ∀ e, gbin .add e (.int .i64 (o : Int)) (.int .i64 17) = some (.int .i64 ((o + 17 : Nat) : Int)) := fun e => by
    rw [gb_add, wr_i64 (by omega)]; rfl
  have k4 : ∀ e, gbin .add e (.int .i64 ((o + 17 : Nat) : Int)) (.int .i64 (p.length : Int)) = some (.int .i64 ((o + 17 + p.length : Nat) : Int)) := fun e => by
    rw [gb_add, wr_i64 (by omega)]; rfl
  have k5 : ∀ e, gbin .add e (.int .i64 (o : Int)) (.int .i64 1) = some (.int .i64 ((o + 1 : Nat) : Int)) := fun e => by
    rw [gb_add, wr_i64 (by omega)]; rfl
  obtain ⟨a1, a2, a3, a4, a5, a6, a7, a8⟩ := hA2.rds
  repeat' (first | (exfalso; omega) | refine zn ?_ | refine zK rfl ?_ | refine zP rfl ?_ | ((first | refine zm ?_ | skip); intro _; intros; simp (disch := first | exact zd | fail) only [↓yS, yT, gresults, gone, ↓reduceIte, Nat.reduceEqDiff, Nat.reduceAdd, Nat.reduceMul, reduceCtorEq, Int.reduceToNat, g29, a1]; first | (rename_i K k; (first | refine yC (k _ _ ?_) | refine zg (k _ ?_)); clear k K) | (rename_i A B C D a b c d; (first | refine zx (a ?_) | refine zy (b ?_) | refine zz (fun hc => c ?_) (fun hc => d ?_) | refine zv (b ?_) | refine zw (a ?_)) <;> clear a b c d A B C D <;> try simp only [yL] at hc)) | refine zA ?_ | refine zB ?_ | refine zF ?_)
  refine Gw_s fun K' hK' => G1_call (by simp only [gtarget, ↓GArg.ev, ↓evs, ↓Tr.get_set, Nat.reduceEqDiff, if_true, if_false, ↓reduceIte, Option.map_some]; rfl) (rcopied_ok hA2.same.wf ⟨h.rb.same_ hw hA2.same, hbig, hlow⟩) fun r3 H3 hq => hK' _ _ ?_
  obtain ⟨dv2, rfl, hO3⟩ := hq
  have hA3 := hA2.later hO3.same
  have hO3 := hO3.weaken hA2.same
  have hd2 := hO3.rb.flat
  have c1 : gsetn (rmC dv m) 0 5 (rmV dv2 m) = some (rmC dv2 m) := rm_gset rfl hd2
  have c2 := hA3.m3
  repeat' (first | (exfalso; omega) | refine zn ?_ | refine zK rfl ?_ | refine zP rfl ?_ | ((first | refine zm ?_ | skip); intro _; intros; simp (disch := first | exact zd | fail) only [↓yS, yT, gresults, gone, ↓reduceIte, Nat.reduceEqDiff, Nat.reduceAdd, Nat.reduceMul, reduceCtorEq, Int.reduceToNat, g29, c1, c2]; first | (rename_i K k; (first | refine yC (k _ _ ?_) | refine zg (k _ ?_)); clear k K) | (rename_i A B C D a b c d; (first | refine zx (a ?_) | refine zy (b ?_) | refine zz (fun hc => c ?_) (fun hc => d ?_) | refine zv (b ?_) | refine zw (a ?_)) <;> clear a b c d A B C D <;> try simp only [yL] at hc)) | refine zA ?_ | refine zB ?_ | refine zF ?_)
  have hA4 := hA3.put3 dv2 m
  have hO4 := hO3.put0 (Nat.le_refl _) c2 (.cells (rmC dv2 m) 0 true)
  generalize H3.put H.len (.cells (rmC dv2 m) 0 true) = H4 at *
  clear a1 a2 a3 a4 a5 a6 a7 a8 c1 c2 hO3 hA3 hA2 hS2
  obtain ⟨a1, a2, a3, a4, a5, a6, a7, a8⟩ := hA4.rds
  repeat' (first | (exfalso; omega) | refine zn ?_ | refine zK rfl ?_ | refine zP rfl ?_ | ((first | refine zm ?_ | skip); intro _; intros; simp (disch := first | exact zd | fail) only [↓yS, yT, gresults, gone, ↓reduceIte, Nat.reduceEqDiff, Nat.reduceAdd, Nat.reduceMul, reduceCtorEq, Int.reduceToNat, g29, a1, a3, a5, a6, hsl.len, k1, k2, k3, k4, fill1z]; first | (rename_i K k; (first | refine yC (k _ _ ?_) | refine zg (k _ ?_)); clear k K) | (rename_i A B C D a b c d; (first | refine zx (a ?_) | refine zy (b ?_) | refine zz (fun hc => c ?_) (fun hc => d ?_) | refine zv (b ?_) | refine zw (a ?_)) <;> clear a b c d A B C D <;> try simp only [yL] at hc)) | refine zA ?_ | refine zB ?_ | refine zF ?_)
  refine Gw_s fun K' hK' => G1_call (by simp only [gtarget, ↓GArg.ev, ↓evs, ↓Tr.get_set, Nat.reduceEqDiff, if_true, if_false, ↓reduceIte, Option.map_some]; rfl) (rwrite1 hO4 hlow hbig 0 (o := o) (by omega)) fun r5 H5 hq5 => hK' _ _ ?_
  obtain ⟨rfl, hO5, hB5⟩ := hq5
  obtain ⟨w1, w2, hA6, hO6⟩ := hA4.wrote hO4 hO5 hB5
  rw [wrR_append] at hPost
  have hl6 := wrR_len [(o, 0)] m
  generalize wrR m [(o, 0)] = m6 at *
  repeat' (first | (exfalso; omega) | refine zn ?_ | refine zK rfl ?_ | refine zP rfl ?_ | ((first | refine zm ?_ | skip); intro _; intros; simp (disch := first | exact zd | fail) only [↓yS, yT, gresults, gone, ↓reduceIte, Nat.reduceEqDiff, Nat.reduceAdd, Nat.reduceMul, reduceCtorEq, Int.reduceToNat, g29, w1, w2]; first | (rename_i K k; (first | refine yC (k _ _ ?_) | refine zg (k _ ?_)); clear k K) | (rename_i A B C D a b c d; (first | refine zx (a ?_) | refine zy (b ?_) | refine zz (fun hc => c ?_) (fun hc => d ?_) | refine zv (b ?_) | refine zw (a ?_)) <;> clear a b c d A B C D <;> try simp only [yL] at hc)) | refine zA ?_ | refine zB ?_ | refine zF ?_)
  generalize H5.put H.len (.cells (rmC dv2 m6) 0 true) = H6 at *
  clear a1 a2 a3 a4 a5 a6 a7 a8 w1 w2 hO5 hB5 hA4 hO4
  obtain ⟨a1, a2, a3, a4, a5, a6, a7, a8⟩ := hA6.rds
  repeat' (first | (exfalso; omega) | refine zn ?_ | refine zK rfl ?_ | refine zP rfl ?_ | ((first | refine zm ?_ | skip); intro _; intros; simp (disch := first | exact zd | fail) only [↓yS, yT, gresults, gone, ↓reduceIte, Nat.reduceEqDiff, Nat.reduceAdd, Nat.reduceMul, reduceCtorEq, Int.reduceToNat, g29, a1, hsl.len, k3, k4, fill1z]; first | (rename_i K k; (first | refine yC (k _ _ ?_) | refine zg (k _ ?_)); clear k K) | (rename_i A B C D a b c d; (first | refine zx (a ?_) | refine zy (b ?_) | refine zz (fun hc => c ?_) (fun hc => d ?_) | refine zv (b ?_) | refine zw (a ?_)) <;> clear a b c d A B C D <;> try simp only [yL] at hc)) | refine zA ?_ | refine zB ?_ | refine zF ?_)
  refine Gw_s fun K' hK' => G1_call (by simp only [gtarget, ↓GArg.ev, ↓evs, ↓Tr.get_set, Nat.reduceEqDiff, if_true, if_false, ↓reduceIte, Option.map_some]; rfl) (rwrite1 hO6 (by omega) (by omega) 0 (o := o + 17 + p.length) (by omega)) fun r7 H7 hq7 => hK' _ _ ?_
  obtain ⟨rfl, hO7, hB7⟩ := hq7
  obtain ⟨w1, w2, hA8, hO8⟩ := hA6.wrote hO6 hO7 hB7
  rw [wrR_append] at hPost
  have hl8 := wrR_len [(o + 17 + p.length, 0)] m6
  generalize wrR m6 [(o + 17 + p.length, 0)] = m8 at *
  repeat' (first | (exfalso; omega) | refine zn ?_ | refine zK rfl ?_ | refine zP rfl ?_ | ((first | refine zm ?_ | skip); intro _; intros; simp (disch := first | exact zd | fail) only [↓yS, yT, gresults, gone, ↓reduceIte, Nat.reduceEqDiff, Nat.reduceAdd, Nat.reduceMul, reduceCtorEq, Int.reduceToNat, g29, w1, w2]; first | (rename_i K k; (first | refine yC (k _ _ ?_) | refine zg (k _ ?_)); clear k K) | (rename_i A B C D a b c d; (first | refine zx (a ?_) | refine zy (b ?_) | refine zz (fun hc => c ?_) (fun hc => d ?_) | refine zv (b ?_) | refine zw (a ?_)) <;> clear a b c d A B C D <;> try simp only [yL] at hc)) | refine zA ?_ | refine zB ?_ | refine zF ?_)
  generalize H7.put H.len (.cells (rmC dv2 m8) 0 true) = H8 at *
  clear a1 a2 a3 a4 a5 a6 a7 a8 w1 w2 hO7 hB7 hA6 hO6
  have hw8 := hA8.same.wf
  have hp8 := hp.same_ hw hA8.same
  have hpl8 := hp.idlt hw
  refine GW_hideB (v := v) hw8 hp8 (by simp only [↓GArg.ev, ↓yG, Nat.reduceEqDiff, ↓reduceIte]) fun Hd hid bk hbk hmn => ?_
  have hx3 := hA8.m3
  have hx4 := hA8.m4
  rw [← hmn _ fun hh => by have := hpl8 _ hh; omega] at hx3 hx4
  have a1 := rm_rdn hx3
  have a7 : Hd.rd (H.len + 1) 2 = some (.int .i64 (l.next : Int)) := mine_rd hx4
  repeat' (first | (exfalso; omega) | refine zn ?_ | refine zK rfl ?_ | refine zP rfl ?_ | ((first | refine zm ?_ | skip); intro _; intros; simp (disch := first | exact zd | fail) only [↓yS, yT, gresults, gone, ↓reduceIte, Nat.reduceEqDiff, Nat.reduceAdd, Nat.reduceMul, reduceCtorEq, Int.reduceToNat, g29, a1, a7, k5]; first | (rename_i K k; (first | refine yC (k _ _ ?_) | refine zg (k _ ?_)); clear k K) | (rename_i A B C D a b c d; (first | refine zx (a ?_) | refine zy (b ?_) | refine zz (fun hc => c ?_) (fun hc => d ?_) | refine zv (b ?_) | refine zw (a ?_)) <;> clear a b c d A B C D <;> try simp only [yL] at hc)) | refine zA ?_ | refine zB ?_ | refine zF ?_)
  rw [hbk]
  refine Gp_c (by simp only [gtarget, ↓GArg.ev, ↓evs, ↓Tr.get_set, Nat.reduceEqDiff, if_true, if_false, ↓reduceIte, Option.map_some]; rfl) (rrecord_ok hw8 hp8 hpl (n := l.next) (by omega)) ?_ fun r9 H9 hq9 => ?_
  · exact fun v H' h i hi hni => h.same.obj i hi
  have hA9 := hA8.later hq9.same
  have hO9 := hO8.later hq9.same
  have hbl : (bodyB l.next p).length = 16 + p.length := by simp [bodyB, sealB_length, leB_length]; omega
  have hdis : ∀ a ∈ idOf r9, ¬ a ∈ idOf dv2 := fun a ha hb => by
    have h1 := hq9.young' a ha
    have h2 := hO8.rb.idlt hw8 a hb
    omega
  refine Gp_s fun K' hK' => G1_call (by simp only [gtarget, ↓GArg.ev, ↓evs, ↓Tr.get_set, Nat.reduceEqDiff, if_true, if_false, ↓reduceIte, Option.map_some]; rfl) (rwrite_ok hO9 (by omega) (by omega) hq9.rb hdis (o := o + 1) (by omega)) fun r10 H10 hq10 => hK' _ _ ?_
  clear hK' K'
  obtain ⟨rfl, hO10, hB10⟩ := hq10
  obtain ⟨w1, w2, hA11, hO11⟩ := hA9.wrote hO9 hO10 hB10
  rw [wrR_append] at hPost
  have hl11 := wrR_len (at_ (o + 1) (bodyB l.next p)) m8
  generalize wrR m8 (at_ (o + 1) (bodyB l.next p)) = m11 at *
  repeat' (first | (exfalso; omega) | refine zn ?_ | refine zK rfl ?_ | refine zP rfl ?_ | ((first | refine zm ?_ | skip); intro _; intros; simp (disch := first | exact zd | fail) only [↓yS, yT, gresults, gone, ↓reduceIte, Nat.reduceEqDiff, Nat.reduceAdd, Nat.reduceMul, reduceCtorEq, Int.reduceToNat, g29, w1, w2]; first | (rename_i K k; (first | refine yC (k _ _ ?_) | refine zg (k _ ?_)); clear k K) | (rename_i A B C D a b c d; (first | refine zx (a ?_) | refine zy (b ?_) | refine zz (fun hc => c ?_) (fun hc => d ?_) | refine zv (b ?_) | refine zw (a ?_)) <;> clear a b c d A B C D <;> try simp only [yL] at hc)) | refine zA ?_ | refine zB ?_ | refine zF ?_)
  generalize H10.put H.len (.cells (rmC dv2 m11) 0 true) = H11 at *
  clear a1 a7 w1 w2 hO10 hB10 hA9 hO9 hA8 hO8 hq9 hbk hmn hx3 hx4
  obtain ⟨a1, a2, a3, a4, a5, a6, a7, a8⟩ := hA11.rds
  repeat' (first | (exfalso; omega) | refine zn ?_ | refine zK rfl ?_ | refine zP rfl ?_ | ((first | refine zm ?_ | skip); intro _; intros; simp (disch := first | exact zd | fail) only [↓yS, yT, gresults, gone, ↓reduceIte, Nat.reduceEqDiff, Nat.reduceAdd, Nat.reduceMul, reduceCtorEq, Int.reduceToNat, g29, a1, fill1z]; first | (rename_i K k; (first | refine yC (k _ _ ?_) | refine zg (k _ ?_)); clear k K) | (rename_i A B C D a b c d; (first | refine zx (a ?_) | refine zy (b ?_) | refine zz (fun hc => c ?_) (fun hc => d ?_) | refine zv (b ?_) | refine zw (a ?_)) <;> clear a b c d A B C D <;> try simp only [yL] at hc)) | refine zA ?_ | refine zB ?_ | refine zF ?_)
  refine Gw_s fun K' hK' => G1_call (by simp only [gtarget, ↓GArg.ev, ↓evs, ↓Tr.get_set, Nat.reduceEqDiff, if_true, if_false, ↓reduceIte, Option.map_some]; rfl) (rwrite1 hO11 (by omega) (by omega) 165 (o := o) (by omega)) fun r12 H12 hq12 => hK' _ _ ?_
  obtain ⟨rfl, hO12, hB12⟩ := hq12
  obtain ⟨w1, w2, hA13, hO13⟩ := hA11.wrote hO11 hO12 hB12
  generalize wrR m11 [(o, 165)] = m13 at *
  have hal : (rlC l).length = 6 := rfl
  have hx4 := hA13.m4
  cases hoff : m13.off with
  | true =>
    repeat' (first | (exfalso; omega) | refine zn ?_ | refine zK rfl ?_ | refine zP rfl ?_ | ((first | refine zm ?_ | skip); intro _; intros; simp (disch := first | exact zd | fail) only [↓yS, yT, gresults, gone, ↓reduceIte, Nat.reduceEqDiff, Nat.reduceAdd, Nat.reduceMul, reduceCtorEq, Int.reduceToNat, g29, w1, w2, hoff]; first | (rename_i K k; (first | refine yC (k _ _ ?_) | refine zg (k _ ?_)); clear k K) | (rename_i A B C D a b c d; (first | refine zx (a ?_) | refine zy (b ?_) | refine zz (fun hc => c ?_) (fun hc => d ?_) | refine zv (b ?_) | refine zw (a ?_)) <;> clear a b c d A B C D <;> try simp only [yL] at hc)) | refine zA ?_ | refine zB ?_ | refine zF ?_)
    generalize H12.put H.len (.cells (rmC dv2 m13) 0 true) = H13 at *
    have hg5 : (rlC l).set 5 (.bool true) = rlC l.broke := rfl
    repeat' (first | (exfalso; omega) | refine zn ?_ | refine zK rfl ?_ | refine zP rfl ?_ | ((first | refine zm ?_ | skip); intro _; intros; simp (disch := first | exact zd | fail) only [↓yS, yT, gresults, gone, ↓reduceIte, Nat.reduceEqDiff, Nat.reduceAdd, Nat.reduceMul, reduceCtorEq, Int.reduceToNat, g29, hx4, hal, hg5]; first | (rename_i K k; (first | refine yC (k _ _ ?_) | refine zg (k _ ?_)); clear k K) | (rename_i A B C D a b c d; (first | refine zx (a ?_) | refine zy (b ?_) | refine zz (fun hc => c ?_) (fun hc => d ?_) | refine zv (b ?_) | refine zw (a ?_)) <;> clear a b c d A B C D <;> try simp only [yL] at hc)) | refine zA ?_ | refine zB ?_ | refine zF ?_)
    have hA14 := hA13.put4 l.broke
    have hO14 := hO13.put0 (by omega) hx4 (.cells (rlC l.broke) 0 true)
    generalize H13.put (H.len + 1) (.cells (rlC l.broke) 0 true) = H14 at *
    obtain ⟨b1, b2, b3, b4, b5⟩ := hA14.hid
    obtain ⟨c1, c2, c3, c4, c5, c6⟩ := hA14.end hd2
    refine GW_hideO (v := ptr (H.len + 1 + 1)) (i := H.len + 1 + 1) (o := .cells z5 0 true) (by simp only [↓GArg.ev, ↓yG, Nat.reduceEqDiff, ↓reduceIte, ptr]) rfl b2 b1 ?_
    rw [show (GObj.cells z5 0 true).unit = 0 from rfl]
    repeat' (first | (exfalso; omega) | refine zn ?_ | refine zK rfl ?_ | refine zP rfl ?_ | ((first | refine zm ?_ | skip); intro _; intros; simp (disch := first | exact zd | fail) only [↓yS, yT, gresults, gone, ↓reduceIte, Nat.reduceEqDiff, Nat.reduceAdd, Nat.reduceMul, reduceCtorEq, Int.reduceToNat, g29, b3, b4]; first | (rename_i K k; (first | refine yC (k _ _ ?_) | refine zg (k _ ?_)); clear k K) | (rename_i A B C D a b c d; (first | refine zx (a ?_) | refine zy (b ?_) | refine zz (fun hc => c ?_) (fun hc => d ?_) | refine zv (b ?_) | refine zw (a ?_)) <;> clear a b c d A B C D <;> try simp only [yL] at hc)) | refine zA ?_ | refine zB ?_ | refine zF ?_)
    rw [put_put, put_self b1]
    refine Gp_0t (by simp [aims, target, idOf, GArg.ev, Tr.get_set]) fun K' hK' => ?_
    simp (disch := first | exact zd | fail) only [↓yS, yT, ↓reduceIte, Nat.reduceEqDiff, Nat.reduceAdd, Nat.reduceMul, reduceCtorEq, Int.reduceToNat, hA14.m6, c1]
    refine G1_go (hK' _ _ ?_)
    clear hK' K'
    repeat' (first | (exfalso; omega) | refine zn ?_ | refine zK rfl ?_ | refine zP rfl ?_ | ((first | refine zm ?_ | skip); intro _; intros; simp (disch := first | exact zd | fail) only [↓yS, yT, gresults, gone, ↓reduceIte, Nat.reduceEqDiff, Nat.reduceAdd, Nat.reduceMul, reduceCtorEq, Int.reduceToNat, g29, c2, c3]; first | (rename_i K k; (first | refine yC (k _ _ ?_) | refine zg (k _ ?_)); clear k K) | (rename_i A B C D a b c d; (first | refine zx (a ?_) | refine zy (b ?_) | refine zz (fun hc => c ?_) (fun hc => d ?_) | refine zv (b ?_) | refine zw (a ?_)) <;> clear a b c d A B C D <;> try simp only [yL] at hc)) | refine zA ?_ | refine zB ?_ | refine zF ?_)
    show GR g29.rets Post _ (ASF H H14 dv2 m13 l.broke)
    repeat' (first | (exfalso; omega) | refine zn ?_ | refine zK rfl ?_ | refine zP rfl ?_ | ((first | refine zm ?_ | skip); intro _; intros; simp (disch := first | exact zd | fail) only [↓yS, yT, gresults, gone, ↓reduceIte, Nat.reduceEqDiff, Nat.reduceAdd, Nat.reduceMul, reduceCtorEq, Int.reduceToNat, g29, c4, c5]; first | (rename_i K k; (first | refine yC (k _ _ ?_) | refine zg (k _ ?_)); clear k K) | (rename_i A B C D a b c d; (first | refine zx (a ?_) | refine zy (b ?_) | refine zz (fun hc => c ?_) (fun hc => d ?_) | refine zv (b ?_) | refine zw (a ?_)) <;> clear a b c d A B C D <;> try simp only [yL] at hc)) | refine zA ?_ | refine zB ?_ | refine zF ?_)
    exact hPost _ _ (by rw [if_pos hoff]; exact ⟨dv2, rfl, (hO14.asf hA14).rb, c6, fun a ha => .inr ((hO14.asf hA14).young' a ha)⟩)
  | false =>
    repeat' (first | (exfalso; omega) | refine zn ?_ | refine zK rfl ?_ | refine zP rfl ?_ | ((first | refine zm ?_ | skip); intro _; intros; simp (disch := first | exact zd | fail) only [↓yS, yT, gresults, gone, ↓reduceIte, Nat.reduceEqDiff, Nat.reduceAdd, Nat.reduceMul, reduceCtorEq, Int.reduceToNat, g29, w1, w2, hoff]; first | (rename_i K k; (first | refine yC (k _ _ ?_) | refine zg (k _ ?_)); clear k K) | (rename_i A B C D a b c d; (first | refine zx (a ?_) | refine zy (b ?_) | refine zz (fun hc => c ?_) (fun hc => d ?_) | refine zv (b ?_) | refine zw (a ?_)) <;> clear a b c d A B C D <;> try simp only [yL] at hc)) | refine zA ?_ | refine zB ?_ | refine zF ?_)
    generalize H12.put H.len (.cells (rmC dv2 m13) 0 true) = H13 at *
    have k6 : IntKind.i64.wrap ((l.fin : Int) + (17 + (p.length : Int))) = ((l.fin + 17 + p.length : Nat) : Int) := by rw [wr_i64 (by omega)]; omega
    have k7 : IntKind.i64.wrap (17 + (p.length : Int)) = 17 + (p.length : Int) := wr_i64 (by omega)
    have k8 : IntKind.i64.wrap ((l.next : Int) + 1) = (l.next : Int) + 1 := wr_i64 (by omega)
    have k9 : IntKind.i64.wrap ((l.next : Int) + 1 - 1) = (l.next : Int) := by rw [wr_i64 (by omega)]; omega
    have hg1 : (rlC l).set 1 (.int .i64 ((l.fin + 17 + p.length : Nat) : Int)) = rlC {l with fin := l.fin + 17 + p.length} := rfl
    have hg2 : (rlC {l with fin := l.fin + 17 + p.length}).set 2 (.int .i64 ((l.next : Int) + 1)) = rlC {l with fin := l.fin + 17 + p.length, next := l.next + 1} := rfl
    obtain ⟨a1, a2, a3, a4, a5, a6, a7, a8⟩ := hA13.rds
    repeat' (first | (exfalso; omega) | refine zn ?_ | refine zK rfl ?_ | refine zP rfl ?_ | ((first | refine zm ?_ | skip); intro _; intros; simp (disch := first | exact zd | fail) only [↓yS, yT, gresults, gone, ↓reduceIte, Nat.reduceEqDiff, Nat.reduceAdd, Nat.reduceMul, reduceCtorEq, Int.reduceToNat, g29, a6, hsl.len, k6, k7, hx4, hal, hg1]; first | (rename_i K k; (first | refine yC (k _ _ ?_) | refine zg (k _ ?_)); clear k K) | (rename_i A B C D a b c d; (first | refine zx (a ?_) | refine zy (b ?_) | refine zz (fun hc => c ?_) (fun hc => d ?_) | refine zv (b ?_) | refine zw (a ?_)) <;> clear a b c d A B C D <;> try simp only [yL] at hc)) | refine zA ?_ | refine zB ?_ | refine zF ?_)
    have hA14 := hA13.put4 {l with fin := l.fin + 17 + p.length}
    have hO14 := hO13.put0 (by omega) hx4 (.cells (rlC {l with fin := l.fin + 17 + p.length}) 0 true)
    generalize H13.put (H.len + 1) (.cells (rlC {l with fin := l.fin + 17 + p.length}) 0 true) = H14 at *
    have hy4 := hA14.m4
    have hal2 : (rlC {l with fin := l.fin + 17 + p.length}).length = 6 := rfl
    clear a1 a2 a3 a4 a5 a6 a7 a8
    obtain ⟨a1, a2, a3, a4, a5, a6, a7, a8⟩ := hA14.rds
    repeat' (first | (exfalso; omega) | refine zn ?_ | refine zK rfl ?_ | refine zP rfl ?_ | ((first | refine zm ?_ | skip); intro _; intros; simp (disch := first | exact zd | fail) only [↓yS, yT, gresults, gone, ↓reduceIte, Nat.reduceEqDiff, Nat.reduceAdd, Nat.reduceMul, reduceCtorEq, Int.reduceToNat, g29, a7, k8, hy4, hal2, hg2]; first | (rename_i K k; (first | refine yC (k _ _ ?_) | refine zg (k _ ?_)); clear k K) | (rename_i A B C D a b c d; (first | refine zx (a ?_) | refine zy (b ?_) | refine zz (fun hc => c ?_) (fun hc => d ?_) | refine zv (b ?_) | refine zw (a ?_)) <;> clear a b c d A B C D <;> try simp only [yL] at hc)) | refine zA ?_ | refine zB ?_ | refine zF ?_)
    have hA15 := hA14.put4 {l with fin := l.fin + 17 + p.length, next := l.next + 1}
    have hO15 := hO14.put0 (by omega) hy4 (.cells (rlC {l with fin := l.fin + 17 + p.length, next := l.next + 1}) 0 true)
    generalize H14.put (H.len + 1) (.cells (rlC {l with fin := l.fin + 17 + p.length, next := l.next + 1}) 0 true) = H15 at *
    generalize hl2 : ({l with fin := l.fin + 17 + p.length, next := l.next + 1} : JL) = l2 at *
    have hn2 : l2.next = l.next + 1 := by rw [← hl2]
    obtain ⟨b1, b2, b3, b4, b5⟩ := hA15.hid
    obtain ⟨d1, d2, d3, d4, d5, d6⟩ := hA15.hid2
    obtain ⟨c1, c2, c3, c4, c5, c6⟩ := hA15.end hd2
    refine GW_hide2 (v := ptr (H.len + 1 + 1)) (w := ptr (H.len + 1 + 1 + 1)) (i := H.len + 1 + 1) (j := H.len + 1 + 1 + 1) (o := .cells z5 0 true) (p := .cells z6 0 true) (by simp only [↓GArg.ev, ↓yG, Nat.reduceEqDiff, ↓reduceIte, ptr]) rfl b2 b1 (by simp only [↓GArg.ev, ↓yG, Nat.reduceEqDiff, ↓reduceIte, ptr]) rfl d2 d1 (by omega) ?_
    rw [show (GObj.cells z5 0 true).unit = 0 from rfl, show (GObj.cells z6 0 true).unit = 0 from rfl]
    rw [hn2] at d5
    have d5 : ((H15.put (H.len + 1 + 1) (.dead 0)).put (H.len + 1 + 1 + 1) (.dead 0)).rd (H.len + 1) 2 = some (.int .i64 ((l.next : Int) + 1)) := d5
    repeat' (first | (exfalso; omega) | refine zn ?_ | refine zK rfl ?_ | refine zP rfl ?_ | ((first | refine zm ?_ | skip); intro _; intros; simp (disch := first | exact zd | fail) only [↓yS, yT, gresults, gone, ↓reduceIte, Nat.reduceEqDiff, Nat.reduceAdd, Nat.reduceMul, reduceCtorEq, Int.reduceToNat, g29, d3, d4, d5, k9]; first | (rename_i K k; (first | refine yC (k _ _ ?_) | refine zg (k _ ?_)); clear k K) | (rename_i A B C D a b c d; (first | refine zx (a ?_) | refine zy (b ?_) | refine zz (fun hc => c ?_) (fun hc => d ?_) | refine zv (b ?_) | refine zw (a ?_)) <;> clear a b c d A B C D <;> try simp only [yL] at hc)) | refine zA ?_ | refine zB ?_ | refine zF ?_)
    rw [d6]
    refine Gp_0t (by simp [aims, target, idOf, GArg.ev, Tr.get_set]) fun K' hK' => ?_
    simp (disch := first | exact zd | fail) only [↓yS, yT, ↓reduceIte, Nat.reduceEqDiff, Nat.reduceAdd, Nat.reduceMul, reduceCtorEq, Int.reduceToNat, hA15.m6, c1]
    refine G1_go (hK' _ _ ?_)
    clear hK' K'
    refine Gp_0t (by simp [aims, target, idOf, GArg.ev, Tr.get_set]) fun K' hK' => ?_
    simp (disch := first | exact zd | fail) only [↓yS, yT, ↓reduceIte, Nat.reduceEqDiff, Nat.reduceAdd, Nat.reduceMul, reduceCtorEq, Int.reduceToNat, c2, c3]
    refine G1_go (hK' _ _ ?_)
    clear hK' K'
    repeat' (first | (exfalso; omega) | refine zn ?_ | refine zK rfl ?_ | refine zP rfl ?_ | ((first | refine zm ?_ | skip); intro _; intros; simp (disch := first | exact zd | fail) only [↓yS, yT, gresults, gone, ↓reduceIte, Nat.reduceEqDiff, Nat.reduceAdd, Nat.reduceMul, reduceCtorEq, Int.reduceToNat, g29]; first | (rename_i K k; (first | refine yC (k _ _ ?_) | refine zg (k _ ?_)); clear k K) | (rename_i A B C D a b c d; (first | refine zx (a ?_) | refine zy (b ?_) | refine zz (fun hc => c ?_) (fun hc => d ?_) | refine zv (b ?_) | refine zw (a ?_)) <;> clear a b c d A B C D <;> try simp only [yL] at hc)) | refine zA ?_ | refine zB ?_ | refine zF ?_)
    show GR g29.rets Post _ (ASF H H15 dv2 m13 l2)
    repeat' (first | (exfalso; omega) | refine zn ?_ | refine zK rfl ?_ | refine zP rfl ?_ | ((first | refine zm ?_ | skip); intro _; intros; simp (disch := first | exact zd | fail) only [↓yS, yT, gresults, gone, ↓reduceIte, Nat.reduceEqDiff, Nat.reduceAdd, Nat.reduceMul, reduceCtorEq, Int.reduceToNat, g29, c4, c5]; first | (rename_i K k; (first | refine yC (k _ _ ?_) | refine zg (k _ ?_)); clear k K) | (rename_i A B C D a b c d; (first | refine zx (a ?_) | refine zy (b ?_) | refine zz (fun hc => c ?_) (fun hc => d ?_) | refine zv (b ?_) | refine zw (a ?_)) <;> clear a b c d A B C D <;> try simp only [yL] at hc)) | refine zA ?_ | refine zB ?_ | refine zF ?_)
    exact hPost _ _ (by rw [if_neg (by rw [hoff]; decide)]; exact ⟨dv2, rfl, (hO15.asf hA15).rb, c6, fun a ha => .inr ((hO15.asf hA15).young' a ha)⟩)
end Go.Gh
