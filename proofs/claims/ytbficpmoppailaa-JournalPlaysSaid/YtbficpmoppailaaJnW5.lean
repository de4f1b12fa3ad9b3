/-
  The journal, walked: Open.
-/
import Derived.Test.YtbficpmoppailaaJnW4
namespace Go.Gh
set_option linter.unusedSimpArgs false
set_option linter.unusedVariables false
set_option maxHeartbeats 4000000
open Go.RowKit
set_option maxRecDepth 4000

theorem readB_some {b : List UInt8} {o last : Nat} {r : JR} (h : readB b o last = some r) : o + 17 + r.data.length < b.length ∧ (last = 0 → 1 ≤ r.num ∧ r.num ≤ 1099511627776) ∧ (last ≠ 0 → r.num = last + 1) := by
  unfold readB at h
  split at h
  · cases h
  rename_i hA
  split at h
  · cases h
  rename_i hB
  split at h
  · cases h
  rename_i p hp
  split at h
  · cases h
  rename_i hC
  cases h
  have hl := openB_length hp
  rw [sub_length (by omega)] at hl
  refine ⟨by simp only [List.length_drop]; omega, fun h => ?_, fun h => ?_⟩
  · simp only at hC ⊢; omega
  · simp only at hC ⊢; omega
abbrev RP := JR × Value
def recC (x : RP) : List Value := [.int .i64 (x.1.num : Int), .bool x.1.state, x.2]
theorem recC_len (x : RP) : (recC x).length = 3 := rfl
/-- a record's bytes, read into memory of its own -/
def RecOwn (H0 H : GHeap) (x : RP) : Prop :=
  ∃ q n gc full, x.2 = .slice (some ⟨q, 12, none⟩) n gc ∧ RB H x.2 x.1.data ∧ H0.len ≤ q ∧ H.mine q = some (u8s full, 257) ∧ full.drop 12 = x.1.data ∧ 12 ≤ full.length
/-- a table of records -/
structure RecT (H0 H : GHeap) (v : Value) (L : List RP) : Prop where
  own : OS 3 3 H0 H v L.length (L.flatMap recC)
  data : ∀ x ∈ L, RecOwn H0 H x
theorem RecOwn.but {S : Nat → Prop} {H0 H H' : GHeap} {x : RP} (h : RecOwn H0 H x) (hw : H.wf) (hb : But S H H') (ha : ∀ a ∈ idOf x.2, ¬ S a) : RecOwn H0 H' x := by
  obtain ⟨q, n, gc, full, e, h1, h2, h3, h4, h5⟩ := h
  have hq : ¬ S q := ha q (by rw [e]; simp [idOf])
  exact ⟨q, n, gc, full, e, h1.but hw hb ha, h2, by rw [hb.mine (mine_lt hw h3) hq]; exact h3, h4, h5⟩
theorem RecT.later {H0 H H' : GHeap} {v : Value} {L : List RP} (h : RecT H0 H v L) (hs : Same H H') : RecT H0 H' v L :=
  ⟨h.own.later hs, fun x hx => (h.data x hx).but h.own.same.wf (But.of (S := fun _ => False) hs) (fun _ _ => id)⟩
/-- what is a table's own is no record's -/
theorem RecT.apart {H0 H : GHeap} {v : Value} {L : List RP} (h : RecT H0 H v L) {x : RP} (hx : RecOwn H0 H x) : ∀ a ∈ idOf x.2, ¬ a ∈ idOf v := by
  obtain ⟨q, n, gc, full, e, h1, h2, h3, h4, h5⟩ := hx
  intro a ha hv
  rw [e] at ha
  simp only [idOf, List.mem_singleton] at ha
  subst ha
  rcases h.own.own.at_ with ⟨e2, _⟩ | ⟨i, gc2, e2, _, hm⟩
  · rw [e2] at hv; simp [idOf] at hv
  · rw [e2] at hv
    simp only [idOf, List.mem_singleton] at hv
    subst hv
    rw [h3] at hm
    simp at hm
theorem RecT.snoc {H0 H : GHeap} {v : Value} {L : List RP} (h : RecT H0 H v L) {x : RP} (hx : RecOwn H0 H x) (hl : L.length < 3518437208882) :
    ∃ v' H', gapp 3 40 3 (H.add (some (.cells (recC x) 3 true))) v (.slice (some ⟨H.len, 0, none⟩) 1 2) = some (v', H') ∧ RecT H0 H' v' (L ++ [x]) ∧ But (fun j => j ∈ idOf v) H H' := by
  obtain ⟨v', H', e, hO, hB⟩ := h.own.app1 (by decide) (by decide) (recC_len x) (b := 40) (by omega) (by omega)
  refine ⟨v', H', e, ⟨?_, fun y hy => ?_⟩, hB⟩
  · rw [List.length_append, List.flatMap_append]
    simpa using hO
  · have : RecOwn H0 H y := by
      rcases List.mem_append.1 hy with hy | hy
      · exact h.data y hy
      · rw [List.mem_singleton.1 hy]; exact hx
    exact this.but h.own.same.wf hB (h.apart this)
theorem OS.ids {s u n : Nat} {H0 H : GHeap} {v : Value} {xs : List Value} (h : OS s u H0 H v n xs) {a : Nat} (ha : a ∈ idOf v) : H0.len ≤ a ∧ a < H.len ∧ H.mine a = some (xs, u) := by
  rcases h.own.at_ with ⟨e, _⟩ | ⟨i, gc, e, _, hm⟩
  · rw [e] at ha; simp [idOf] at ha
  · rw [e] at ha
    simp only [idOf, List.mem_singleton] at ha
    subst ha
    refine ⟨?_, mine_lt h.same.wf hm, hm⟩
    rcases h.young with e2 | e2
    · rw [e] at e2; cases e2
    · rw [e] at e2; exact e2
theorem mine_ne {H : GHeap} {a b u u' : Nat} {cs cs' : List Value} (h : H.mine a = some (cs, u)) (h' : H.mine b = some (cs', u')) (hu : u ≠ u') : a ≠ b := by
  rintro rfl
  rw [h] at h'
  simp only [Option.some.injEq, Prod.mk.injEq] at h'
  exact hu h'.2
theorem RecT.put0 {H0 H : GHeap} {v : Value} {L : List RP} (h : RecT H0 H v L) {k : Nat} {cs : List Value} (hm : H.mine k = some (cs, 0)) (hk : H0.len ≤ k) (o : GObj) : RecT H0 (H.put k o) v L := by
  have hw := h.own.same.wf
  have hb : But (fun z => z = k) H (H.put k o) := (But.refl (S := fun z => z = k) hw).put (i := k) rfl (mine_lt hw hm) o
  refine ⟨h.own.but hb (fun z hz e => by subst e; omega) (fun a ha e => ?_), fun x hx => ?_⟩
  · exact mine_ne (h.own.ids ha).2.2 hm (by decide) e
  · have hh := h.data x hx
    refine hh.but hw hb fun a ha e => ?_
    obtain ⟨q, n, gc, full, e2, _, _, h3, _⟩ := hh
    rw [e2] at ha
    simp only [idOf, List.mem_singleton] at ha
    exact mine_ne h3 hm (by decide) (ha.symm.trans e)
theorem chooseB_lt {d : List UInt8} {b g : Nat} (h : chooseB d = some (b, g)) : b < 2 := by
  unfold chooseB at h
  split at h
  · cases h
  · cases h; decide
  · cases h; decide
  · split at h <;> cases h <;> decide
theorem recs_end {b : List UInt8} {f o last : Nat} (h : b[o]! = 0) : recsB b f o last = ([], o, last, false) := by
  cases f with
  | zero => rfl
  | succ f => rw [recsB, if_pos h]
def logCells (p : Value) (l : JL) : List Value := [p, .int .i64 (l.bank : Int), .int .u64 (l.gen : Int), .int .i64 (l.fin : Int), .int .i64 (l.next : Int), .bool l.broken, .bool l.damaged]
/-- what Open returns -/
def JOpenOut (H H' : GHeap) (i : Nat) (m : JM) (r : Value) : Prop :=
  if m.off = true then r = .tuple #[.pointer none, .slice none 0 0, .int .i64 21] ∧ Same H H'
  else match openJ m.data with
    | none => r = .tuple #[.pointer none, .slice none 0 0, .int .i64 19] ∧ Same H H'
    | some (l, rs) => ∃ k v L, r = .tuple #[ptr k, v, .int .i64 0] ∧ H.len ≤ k ∧ H'.mine k = some (logCells (ptr i) l, 0) ∧ RecT H H' v L ∧ L.map Prod.fst = rs
theorem fill_rec {k : Int} {t : Bool} {a : Option Addr} {n c : Nat} : fillL (zeros [.int .i64 0, .bool false, .slice none 0 0] 1) [(0, 3, .agg #[.int .i64 k, .bool t, .slice a n c])] = some [.int .i64 k, .bool t, .slice a n c] := by
  simp [fillL, zeros, Value.cells, flatV]
set_option maxHeartbeats 1000000 in
theorem jopen_ok {H : GHeap} (hw : H.wf) {i j gc : Nat} {m : JM} (h : MemAt H i j gc m) :
    ∃ r H', gev G 12 [ptr i] H = some (r, H') ∧ JOpenOut H H' i m r := by
  refine gev_GW (f := 12) rfl fun Post hPost => ?_
  have hbig := h.big
  have hrd := h.rd
  simp only [frameOf, Nat.reduceAdd, ptr]
  repeat' (first | refine zn ?_ | refine zK rfl ?_ | refine zP rfl ?_ | ((first | refine zm ?_ | skip); intro _; intros; simp (disch := first | exact zd | fail) only [↓yS, yT, gresults, gone, ↓reduceIte, Nat.reduceEqDiff, Nat.reduceAdd, Nat.reduceMul, reduceCtorEq, Int.reduceToNat, g12, hrd, memCells]; first | (rename_i K k; (first | refine yC (k _ _ ?_) | refine zg (k _ ?_)); clear k K) | (rename_i A B C D a b c d; (first | refine zx (a ?_) | refine zy (b ?_) | refine zz (fun hc => c ?_) (fun hc => d ?_) | refine zv (b ?_) | refine zw (a ?_)) <;> clear a b c d A B C D <;> try simp only [yL] at hc)) | refine zA ?_ | refine zB ?_ | refine zF ?_)
  case refine_1 => exact hPost _ _ (by unfold JOpenOut; rw [if_pos hc]; exact ⟨rfl, Same.refl hw⟩)
  case refine_2 =>
  have hout : ∀ r H', (match openJ m.data with
    | none => r = .tuple #[.pointer none, .slice none 0 0, .int .i64 19] ∧ Same H H'
    | some (l, rs) => ∃ k v L, r = .tuple #[ptr k, v, .int .i64 0] ∧ H.len ≤ k ∧ H'.mine k = some (logCells (ptr i) l, 0) ∧ RecT H H' v L ∧ L.map Prod.fst = rs) → Post r H' := fun r H' hh => hPost r H' (by
      unfold JOpenOut; rw [if_neg (by rw [hc]; decide)]; exact hh)
  clear hPost
  refine Gw_s fun K' hK' => G1_call (by simp only [gtarget, ↓GArg.ev, ↓evs, ↓Tr.get_set, Nat.reduceEqDiff, if_true, if_false, ↓reduceIte, Option.map_some]; rfl) (choose_ok hw h) fun r2 H2 hq => hK' _ _ ?_
  obtain ⟨rfl, hS2⟩ := hq
  cases hch : chooseB m.data with
  | none =>
    rw [openJ, hch] at hout
    simp only [chooseV]
    repeat' (first | refine zn ?_ | refine zK rfl ?_ | refine zP rfl ?_ | ((first | refine zm ?_ | skip); intro _; intros; simp (disch := first | exact zd | fail) only [↓yS, yT, gresults, gone, ↓reduceIte, Nat.reduceEqDiff, Nat.reduceAdd, Nat.reduceMul, reduceCtorEq, Int.reduceToNat, g12]; first | (rename_i K k; (first | refine yC (k _ _ ?_) | refine zg (k _ ?_)); clear k K) | (rename_i A B C D a b c d; (first | refine zx (a ?_) | refine zy (b ?_) | refine zz (fun hc => c ?_) (fun hc => d ?_) | refine zv (b ?_) | refine zw (a ?_)) <;> clear a b c d A B C D <;> try simp only [yL] at hc)) | refine zA ?_ | refine zB ?_ | refine zF ?_)
    exact hout _ _ ⟨rfl, hS2⟩
  | some ig =>
    obtain ⟨bk, g⟩ := ig
    rw [openJ, hch] at hout
    dsimp only at hout
    simp only [chooseV]
    repeat' (first | refine zn ?_ | refine zK rfl ?_ | refine zP rfl ?_ | ((first | refine zm ?_ | skip); intro _; intros; simp (disch := first | exact zd | fail) only [↓yS, yT, gresults, gone, ↓reduceIte, Nat.reduceEqDiff, Nat.reduceAdd, Nat.reduceMul, reduceCtorEq, Int.reduceToNat, g12]; first | (rename_i K k; (first | refine yC (k _ _ ?_) | refine zg (k _ ?_)); clear k K) | (rename_i A B C D a b c d; (first | refine zx (a ?_) | refine zy (b ?_) | refine zz (fun hc => c ?_) (fun hc => d ?_) | refine zv (b ?_) | refine zw (a ?_)) <;> clear a b c d A B C D <;> try simp only [yL] at hc)) | refine zA ?_ | refine zB ?_ | refine zF ?_)
    have hlim := hS2.wf.1
    have hbk := chooseB_lt hch
    have hM2 := h.later hw hS2
    have hS3 := hS2.add (.cells (logCells (ptr i) ⟨bk, g, 13, 1, false, false⟩) 0 true)
    have hM3 := h.later hw hS3
    have hm3 : (H2.add (some (.cells (logCells (ptr i) ⟨bk, g, 13, 1, false, false⟩) 0 true))).mine H2.len = some (logCells (ptr i) ⟨bk, g, 13, 1, false, false⟩, 0) := mine_add_eq rfl hlim
    have hbnk := bank_ok hS3.wf hM3 hbk
    have hlB := bankB_length (d := m.data) hbk
    have hlow := h.low
    have hjl := mine_lt hw h.dat
    generalize hH3 : H2.add (some (.cells (logCells (ptr i) ⟨bk, g, 13, 1, false, false⟩) 0 true)) = H3 at hS3 hM3 hm3 hbnk
    have hH3' : H2.add (some (.cells [.pointer (some ⟨i, 0, none⟩), .int .i64 (bk : Int), .int .u64 (g : Int), .int .i64 13, .int .i64 1, .bool false, .bool false] 0 true)) = H3 := hH3
    rw [hH3']
    refine Gw_s fun K' hK' => G1_call (by simp only [gtarget, ↓GArg.ev, ↓evs, ↓Tr.get_set, Nat.reduceEqDiff, if_true, if_false, ↓reduceIte, Option.map_some]; rfl) (hbnk) fun bv H3b hq => hK' _ _ ?_
    obtain ⟨hRB, hid, rfl⟩ := hq
    generalize bankB m.data bk = B at *
    have hkl : H.len ≤ H2.len := hS2.len
    have hkl3 : H2.len < H3b.len := mine_lt hS3.wf hm3
    repeat' (first | refine zn ?_ | refine zK rfl ?_ | refine zP rfl ?_ | ((first | refine zm ?_ | skip); intro _; intros; simp (disch := first | exact zd | fail) only [↓yS, yT, gresults, gone, ↓reduceIte, Nat.reduceEqDiff, Nat.reduceAdd, Nat.reduceMul, reduceCtorEq, Int.reduceToNat, g12]; first | (rename_i K k; (first | refine yC (k _ _ ?_) | refine zg (k _ ?_)); clear k K) | (rename_i A B C D a b c d; (first | refine zx (a ?_) | refine zy (b ?_) | refine zz (fun hc => c ?_) (fun hc => d ?_) | refine zv (b ?_) | refine zw (a ?_)) <;> clear a b c d A B C D <;> try simp only [yL] at hc)) | refine zA ?_ | refine zB ?_ | refine zF ?_)
    refine GW_loop (fun k fr H1 => ∃ (f e last : Nat) (v : Value) (L : List RP), e < B.length ∧ k = B.length - e ∧ B.length ≤ f + e ∧ fr.get 8 = some (ptr H2.len) ∧ fr.get 9 = some (bv) ∧ fr.get 10 = some (v) ∧ fr.get 11 = some (.int .i64 last) ∧
      H1.mine H2.len = some (logCells (ptr i) ⟨bk, g, e, last + 1, false, false⟩, 0) ∧ RB H1 bv B ∧ RecT H H1 v L ∧ L.length * 17 ≤ e ∧ last ≤ 1099511627776 + e ∧
      recsB B B.length 13 0 = (L.map Prod.fst ++ (recsB B f e last).1, (recsB B f e last).2)) ?_ (B.length - 13) ?_
    case refine_2 =>
      refine ⟨B.length, 13, 0, .slice none 0 0, [], by omega, by omega, by omega, ?_⟩
      simp only [↓yG, Nat.reduceEqDiff, ↓reduceIte, Int.natCast_add, Int.cast_ofNat_Int, Int.natCast_zero, true_and, and_true, Option.some.injEq, Value.int.injEq, ptr]
      exact ⟨hm3, hRB, ⟨OS.nil hS3, fun x hx => by cases hx⟩, by simp, by omega, rfl⟩
    rintro k fr H1 ⟨f, e, last, v, L, he, rfl, hfe, f8, f9, f10, f11, hm1, hR1, hT1, hLe, hla, hrec⟩ J hJ
    have hS1 := hT1.own.same
    have hrd1 := fun o => mine_rd (o := o) hm1
    have hsl := hR1.isSl
    have hbd : ∀ k : Nat, k < B.length → H1.rd (blk bv) (ofs bv + k) = some (.int .u8 B[k]!.toNat) := fun k hk => hR1.read hk
    have hbe := hbd e he
    have hz : ((B[e]!.toNat : Int) = 0) ↔ B[e]! = 0 := u8_lit (c := 0) (by decide)
    repeat' (first | refine zn ?_ | refine zK rfl ?_ | refine zP rfl ?_ | ((first | refine zm ?_ | skip); intro _; intros; simp (disch := first | exact zd | fail) only [↓yS, yT, gresults, gone, ↓reduceIte, Nat.reduceEqDiff, Nat.reduceAdd, Nat.reduceMul, reduceCtorEq, Int.reduceToNat, g12, f8, f9, f10, f11, ptr, hrd1, logCells, hsl.ia, hbe]; first | (rename_i K k; (first | refine yC (k _ _ ?_) | refine zg (k _ ?_)); clear k K) | (rename_i A B C D a b c d; (first | refine zx (a ?_) | refine zy (b ?_) | refine zz (fun hc => c ?_) (fun hc => d ?_) | refine zv (b ?_) | refine zw (a ?_)) <;> clear a b c d A B C D <;> try simp only [yL] at hc)) | refine zA ?_ | refine zB ?_ | refine zF ?_)
    case some.refine_1.refine_2 =>
      refine hout _ _ ⟨H2.len, v, L, rfl, hkl, ?_, hT1, ?_⟩
      · rw [hm1, hrec, recs_end (hz.1 hc)]
      · rw [hrec, recs_end (hz.1 hc)]; simp
    case some.refine_1.refine_1 =>
    have hB0 : ¬ B[e]! = 0 := fun hh => hc (hz.2 hh)
    obtain ⟨f, rfl⟩ : ∃ f', f = f' + 1 := ⟨f - 1, by omega⟩
    have hstep : recsB B (f + 1) e last = match readB B e last with
        | none => ([], e, last, true)
        | some r => (r :: (recsB B f (e + 17 + r.data.length) r.num).1, (recsB B f (e + 17 + r.data.length) r.num).2) := by rw [recsB, if_neg hB0]; rfl
    have hkl1 : H2.len < H1.len := mine_lt hS1.wf hm1
    have hlim1 := hS1.wf.1
    refine Gw_s fun K' hK' => G1_call (by simp only [gtarget, ↓GArg.ev, ↓evs, ↓Tr.get_set, Nat.reduceEqDiff, if_true, if_false, ↓reduceIte, Option.map_some]; rfl) (read_ok hS1.wf hR1 (by omega) (last := last) he (by omega)) fun r4 H4 hq => hK' _ _ ?_
    have hS4 : Same H1 H4 := by
      cases hr : readB B e last with
      | none => rw [hr] at hq; exact hq.1
      | some x => rw [hr] at hq; exact hq.1
    have hm4 := (hS4.mine hkl1).trans hm1
    have hlim4 := hS4.wf.1
    have hl14 := hS4.len
    have hkl4 : H2.len < H4.len := by omega
    cases hr : readB B e last with
    | none =>
      rw [hr] at hq hstep
      obtain ⟨_, rfl⟩ := hq
      repeat' (first | refine zn ?_ | refine zK rfl ?_ | refine zP rfl ?_ | ((first | refine zm ?_ | skip); intro _; intros; simp (disch := first | exact zd | fail) only [↓yS, yT, gresults, gone, ↓reduceIte, Nat.reduceEqDiff, Nat.reduceAdd, Nat.reduceMul, reduceCtorEq, Int.reduceToNat, g12, f8, f9, f10, f11, ptr, logCells, hm4]; first | (rename_i K k; (first | refine yC (k _ _ ?_) | refine zg (k _ ?_)); clear k K) | (rename_i A B C D a b c d; (first | refine zx (a ?_) | refine zy (b ?_) | refine zz (fun hc => c ?_) (fun hc => d ?_) | refine zv (b ?_) | refine zw (a ?_)) <;> clear a b c d A B C D <;> try simp only [yL] at hc)) | refine zA ?_ | refine zB ?_ | refine zF ?_)
      have hm5 : ((H4.add (some (.cells [.int .i64 0, .bool false, .slice none 0 0] 0 true))).put H4.len (.cells [.int .i64 0, .bool false, .slice none 0 0] 0 true)).mine H2.len = some (logCells (ptr i) ⟨bk, g, e, last + 1, false, false⟩, 0) := by
        rw [mine_put_ne (by omega), mine_add_ne (by omega)]; exact hm4
      have hT5 := (hT1.later hS4).later ((Same.refl hS4.wf).new (.cells [.int .i64 0, .bool false, .slice none 0 0] 0 true) (.cells [.int .i64 0, .bool false, .slice none 0 0] 0 true))
      refine hout _ _ ⟨H2.len, v, L, rfl, hkl, ?_, hT5.put0 hm5 hkl _, ?_⟩
      · rw [mine_put_same (mine_obj hm5).1, hrec, hstep]; rfl
      · rw [hrec, hstep]; simp
    | some x =>
      rw [hr] at hq hstep
      obtain ⟨_, q, n, gcq, full, rfl, hxR, hxq, hxm, hxf, hxl⟩ := hq
      obtain rfl : n = x.data.length := by
        obtain ⟨_, a, gc', e, _⟩ := hxR.rd
        cases e; rfl
      have hS5 := (Same.refl hS4.wf).new (.cells [.int .i64 0, .bool false, .slice none 0 0] 0 true) (.cells (recC (x, .slice (some ⟨q, 12, none⟩) x.data.length gcq)) 0 true)
      have hT5 := (hT1.later hS4).later hS5
      have hx5 : RecOwn H _ (x, .slice (some ⟨q, 12, none⟩) x.data.length gcq) := RecOwn.but (H0 := H) ⟨q, x.data.length, gcq, full, rfl, hxR, Nat.le_trans hS1.len hxq, hxm, hxf, hxl⟩ hS4.wf (But.of (S := fun _ => False) hS5) (fun _ _ => id)
      have hm5 := (hS5.mine hkl4).trans hm4
      have hm5r : ((H4.add (some (.cells [.int .i64 0, .bool false, .slice none 0 0] 0 true))).put H4.len (.cells (recC (x, .slice (some ⟨q, 12, none⟩) x.data.length gcq)) 0 true)).mine H4.len = some (recC (x, .slice (some ⟨q, 12, none⟩) x.data.length gcq), 0) := mine_put_same (by rw [lim_add]; exact hlim4)
      have hR5 := (hR1.same_ hS1.wf hS4).same_ hS4.wf hS5
      obtain ⟨hrs1, hrs2, hrs3⟩ := readB_some hr
      simp only [recC] at hS5 hT5 hx5 hm5 hm5r hR5
      repeat' (first | refine zn ?_ | refine zK rfl ?_ | refine zP rfl ?_ | ((first | refine zm ?_ | skip); intro _; intros; simp (disch := first | exact zd | fail) only [↓yS, yT, gresults, gone, ↓reduceIte, Nat.reduceEqDiff, Nat.reduceAdd, Nat.reduceMul, reduceCtorEq, Int.reduceToNat, g12, f8, f9, f10, f11, ptr, logCells, recV, fill_rec, hm4]; first | (rename_i K k; (first | refine yC (k _ _ ?_) | refine zg (k _ ?_)); clear k K) | (rename_i A B C D a b c d; (first | refine zx (a ?_) | refine zy (b ?_) | refine zz (fun hc => c ?_) (fun hc => d ?_) | refine zv (b ?_) | refine zw (a ?_)) <;> clear a b c d A B C D <;> try simp only [yL] at hc)) | refine zA ?_ | refine zB ?_ | refine zF ?_)
      generalize hH5 : ((H4.add (some (.cells [.int .i64 0, .bool false, .slice none 0 0] 0 true))).put H4.len (.cells [.int .i64 (x.num : Int), .bool x.state, .slice (some ⟨q, 12, none⟩) x.data.length gcq] 0 true)) = H5 at hS5 hT5 hx5 hm5 hm5r hR5
      have hH5' : ((H4.add (some (.cells [.int .i64 0, .bool false, .slice none 0 0] 0 true))).put H4.len (.cells [.int .i64 (x.num : Int), .bool x.state, .slice (some ⟨q, 12, none⟩) x.data.length gcq] 0 true)) = H5 := hH5
      have hl5 := mine_lt hS5.wf hm5r
      obtain ⟨v6, H6, e6, hT6, hB6⟩ := hT5.snoc hx5 (by omega)
      have hl5' : H5.len = H4.len + 1 := by rw [← hH5]; rfl
      rw [hl5'] at e6
      simp only [recC] at e6
      have hids : ∀ a ∈ idOf v, a < H1.len ∧ a ≠ H2.len ∧ H.len ≤ a := fun a ha => ⟨(hT1.own.ids ha).2.1, mine_ne (hT1.own.ids ha).2.2 hm1 (by decide), (hT1.own.ids ha).1⟩
      have hm6 := (hB6.mine (Nat.lt_of_lt_of_le hkl4 hS5.len) (fun ha => (hids _ ha).2.1 rfl)).trans hm5
      have hm6r := (hB6.mine hl5 (fun ha => by have := (hids _ ha).1; omega)).trans hm5r
      have hR6 := hR5.but hS5.wf hB6 (by rw [hid]; intro a ha hv; simp only [List.mem_singleton] at ha; subst ha; have := (hids _ hv).2.2; omega)
      have hr6 := fun o => mine_rd (o := o) hm6
      have hlim6 := (mine_obj hm6).1
      have hr6r := fun o => mine_rd (o := o) hm6r
      refine Gw_s fun K' hK' => ?_
      simp (disch := first | exact zd | fail) only [↓yS, yT, ↓reduceIte, Nat.reduceEqDiff, Nat.reduceAdd, Nat.reduceMul, reduceCtorEq, Int.reduceToNat, f8, f9, f10, f11]
      refine G1_eq e6 (hK' _ _ ?_)
      clear hK' K' e6
      repeat' (first | refine zn ?_ | refine zK rfl ?_ | refine zP rfl ?_ | ((first | refine zm ?_ | skip); intro _; intros; simp (disch := first | exact zd | fail) only [↓yS, yT, gresults, gone, ↓reduceIte, Nat.reduceEqDiff, Nat.reduceAdd, Nat.reduceMul, reduceCtorEq, Int.reduceToNat, g12, f8, f9, f10, f11, ptr, logCells, recC, hr6, hr6r, hm6, glen]; first | (rename_i K k; (first | refine yC (k _ _ ?_) | refine zg (k _ ?_)); clear k K) | (rename_i A B C D a b c d; (first | refine zx (a ?_) | refine zy (b ?_) | refine zz (fun hc => c ?_) (fun hc => d ?_) | refine zv (b ?_) | refine zw (a ?_)) <;> clear a b c d A B C D <;> try simp only [yL] at hc)) | refine zA ?_ | refine zB ?_ | refine zF ?_)
      have hT7 := hT6.put0 hm6 hkl (.cells [.pointer (some ⟨i, 0, none⟩), .int .i64 (bk : Int), .int .u64 (g : Int), .int .i64 ((e + 17 + x.data.length : Nat) : Int), .int .i64 ((x.num + 1 : Nat) : Int), .bool false, .bool false] 0 true)
      refine hJ _ _ ⟨B.length - (e + 17 + x.data.length), by omega, f, e + 17 + x.data.length, x.num, v6, L ++ [(x, .slice (some ⟨q, 12, none⟩) x.data.length gcq)], by omega, rfl, by omega, ?_⟩
      have hcast : [Value.pointer (some ⟨i, 0, none⟩), .int .i64 (bk : Int), .int .u64 (g : Int), .int .i64 ((e + 17 + x.data.length : Nat) : Int), .int .i64 ((x.num + 1 : Nat) : Int), .bool false, .bool false] = [Value.pointer (some ⟨i, 0, none⟩), .int .i64 (bk : Int), .int .u64 (g : Int), .int .i64 ((e : Int) + (17 + (x.data.length : Int))), .int .i64 ((x.num : Int) + 1), .bool false, .bool false] := by
        simp only [Int.natCast_add]
        congr 5
        omega
      rw [hcast] at hT7
      simp only [↓yG, Nat.reduceEqDiff, ↓reduceIte, Int.natCast_add, Int.cast_ofNat_Int, Int.natCast_zero, true_and, and_true, Option.some.injEq, Value.int.injEq, ptr, f8, f9]
      refine ⟨?_, hR6.but hT6.own.same.wf ((But.refl (S := fun z => z = H2.len) hT6.own.same.wf).put (i := H2.len) rfl (mine_lt hT6.own.same.wf hm6) _) ?_, hT7, ?_, ?_, ?_⟩
      · rw [mine_put_same hlim6, ← hcast]; rfl
      · rw [hid]
        intro a ha hv
        simp only [List.mem_singleton] at ha
        omega
      · simp only [List.length_append, List.length_singleton]; omega
      · by_cases h0 : last = 0
        · have := (hrs2 h0).2; omega
        · have := hrs3 h0; omega
      · rw [hrec, hstep]
        simp [List.append_assoc]
end Go.Gh
