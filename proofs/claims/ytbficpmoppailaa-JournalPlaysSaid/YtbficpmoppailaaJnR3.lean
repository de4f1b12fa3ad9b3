/-
  The reference's journal, walked: Open.
-/
import Derived.Test.YtbficpmoppailaaJnR2
namespace Go.Gh
set_option linter.unusedSimpArgs false
set_option linter.unusedVariables false
set_option maxHeartbeats 4000000
open Go.RowKit
set_option maxRecDepth 4000

def rlC (l : JL) : List Value := [.int .i64 (l.bank : Int), .int .i64 (l.fin : Int), .int .i64 (l.next : Int), .int .u64 (l.gen : Int), .bool l.damaged, .bool l.broken]
/-- a journal of the reference: a value -/
def rlV (l : JL) : Value := .agg (rlC l).toArray
def rl0 : Value := .agg #[.int .i64 0, .int .i64 0, .int .i64 0, .int .u64 0, .bool false, .bool false]
/-- records of one's own: rows and bytes -/
structure RecQ (H0 H : GHeap) (v : Value) (L : List RP) : Prop where
  own : OS 3 3 H0 H v L.length (L.flatMap recC)
  data : ∀ x ∈ L, RB H x.2 x.1.data ∧ ∀ a ∈ idOf x.2, ∃ cs, H.mine a = some (cs, 257)
theorem OB.u257 {H0 H : GHeap} {v : Value} {l : List UInt8} (h : OB H0 H v l) : ∀ a ∈ idOf v, ∃ cs, H.mine a = some (cs, 257) := fun a ha => by
  rcases h.own.at_ with ⟨e, _⟩ | ⟨i, gc, e, _, hm⟩
  · rw [e] at ha; simp [idOf] at ha
  · rw [e] at ha
    simp only [idOf, List.mem_singleton] at ha
    subst ha; exact ⟨_, hm⟩
theorem RecQ.nil {H0 H : GHeap} (hs : Same H0 H) : RecQ H0 H (.slice none 0 0) [] := ⟨OS.nil hs, by simp⟩
theorem RecQ.but {H0 H H' : GHeap} {v : Value} {L : List RP} (h : RecQ H0 H v L) {S : Nat → Prop} (hb : But S H H') (h0 : ∀ k, k < H0.len → ¬ S k) (hs : ∀ a cs u, H.mine a = some (cs, u) → u = 257 ∨ u = 3 → ¬ S a) : RecQ H0 H' v L := by
  have hw := h.own.same.wf
  refine ⟨h.own.but hb h0 fun a ha => hs a _ _ (h.own.ids ha).2.2 (.inr rfl), fun x hx => ?_⟩
  obtain ⟨h1, h2⟩ := h.data x hx
  refine ⟨h1.but hw hb fun a ha => ?_, fun a ha => ?_⟩
  · obtain ⟨cs, hm⟩ := h2 a ha
    exact hs a cs _ hm (.inl rfl)
  · obtain ⟨cs, hm⟩ := h2 a ha
    exact ⟨cs, by rw [hb.mine (mine_lt hw hm) (hs a cs _ hm (.inl rfl))]; exact hm⟩
theorem RecQ.later {H0 H H' : GHeap} {v : Value} {L : List RP} (h : RecQ H0 H v L) (hs : Same H H') : RecQ H0 H' v L := h.but (S := fun _ => False) (But.of hs) (fun _ _ h => h) fun _ _ _ _ _ h => h
theorem RecQ.snoc {H0 H : GHeap} {v : Value} {L : List RP} (h : RecQ H0 H v L) {x : RP} (hx : RB H x.2 x.1.data) (hx2 : ∀ a ∈ idOf x.2, ∃ cs, H.mine a = some (cs, 257)) (hl : L.length < 3518437208880) :
    ∃ v' H', gapp 3 40 3 (H.add (some (.cells (recC x) 3 true))) v (.slice (some ⟨H.len, 0, none⟩) 1 2) = some (v', H') ∧ RecQ H0 H' v' (L ++ [x]) ∧ But (fun j => j ∈ idOf v) H H' := by
  have hw := h.own.same.wf
  obtain ⟨v', H', e, hO, hB⟩ := h.own.app1 (b := 40) (by decide) (by decide) (news := recC x) rfl (by omega) (by omega)
  have hne : ∀ a cs, H.mine a = some (cs, 257) → ¬ a ∈ idOf v := fun a cs hm ha => by
    have h1 := (h.own.ids ha).2.2
    rw [hm] at h1
    simp at h1
  refine ⟨v', H', e, ⟨by simp only [List.length_append, List.length_singleton, List.flatMap_append, List.flatMap_cons, List.flatMap_nil, List.append_nil]; exact hO, fun y hy => ?_⟩, hB⟩
  have key : RB H y.2 y.1.data ∧ ∀ a ∈ idOf y.2, ∃ cs, H.mine a = some (cs, 257) := by
    rcases List.mem_append.1 hy with hy | hy
    · exact h.data y hy
    · rw [List.mem_singleton.1 hy]; exact ⟨hx, hx2⟩
  obtain ⟨h1, h2⟩ := key
  refine ⟨h1.but hw hB fun a ha => ?_, fun a ha => ?_⟩
  · obtain ⟨cs, hm⟩ := h2 a ha
    exact hne a cs hm
  · obtain ⟨cs, hm⟩ := h2 a ha
    exact ⟨cs, by rw [hB.mine (mine_lt hw hm) (hne a cs hm)]; exact hm⟩
theorem RecQ.r {H0 H : GHeap} {v : Value} {L : List RP} (h : RecQ H0 H v L) : RecR H v L := ⟨h.own.rd, fun x hx => (h.data x hx).1⟩
/-- what the reference's Open returns -/
def ROpenOut (H H' : GHeap) (m : JM) (r : Value) : Prop :=
  if m.off = true then r = .tuple #[rl0, .slice none 0 0, .int .i64 21] ∧ Same H H'
  else match openJ m.data with
    | none => r = .tuple #[rl0, .slice none 0 0, .int .i64 19] ∧ Same H H'
    | some (l, rs) => ∃ v L, r = .tuple #[rlV l, v, .int .i64 0] ∧ RecQ H H' v L ∧ L.map Prod.fst = rs
theorem rlC_all {l : JL} : (rlC l).all flatV = true := by simp [rlC, flatV]
set_option maxHeartbeats 4000000 in
theorem ropenJ_ok {H : GHeap} (hw : H.wf) {dv : Value} {m : JM} (h : RM H dv m) :
    ∃ r H', gev G 27 [rmV dv m] H = some (r, H') ∧ ROpenOut H H' m r := by
  refine gev_GW (f := 27) rfl fun Post hPost => ?_
  have hlim := hw.1
  have hbig := h.big
  have hlow := h.low
  have hids := GArg1.ids hw h.rb
  have hfl := rm_all (m := m) h.rb.flat
  have hli := rm_list (dv := dv) (m := m)
  have hSb := (Same.refl hw).add (.cells (rmC dv m) 0 true)
  have hS1 := hSb.add (.cells [.int .i64 0, .int .i64 0, .int .i64 0, .int .u64 0, .bool false, .bool false] 0 true)
  have hl1 : ((H.add (some (.cells (rmC dv m) 0 true))).add (some (.cells [.int .i64 0, .int .i64 0, .int .i64 0, .int .u64 0, .bool false, .bool false] 0 true))).len = H.len + 2 := by simp only [len_add]
  have hm1 : ((H.add (some (.cells (rmC dv m) 0 true))).add (some (.cells [.int .i64 0, .int .i64 0, .int .i64 0, .int .u64 0, .bool false, .bool false] 0 true))).mine H.len = some (rmC dv m, 0) := by
    rw [mine_add_ne (by rw [len_add]; omega)]; exact mine_add_eq rfl hlim
  have hm2 : ((H.add (some (.cells (rmC dv m) 0 true))).add (some (.cells [.int .i64 0, .int .i64 0, .int .i64 0, .int .u64 0, .bool false, .bool false] 0 true))).mine (H.len + 1) = some ([.int .i64 0, .int .i64 0, .int .i64 0, .int .u64 0, .bool false, .bool false], 0) := mine_add_eq (by rw [len_add]) (by rw [lim_add]; omega)
  have hz6 : gsetn [.int .i64 0, .int .i64 0, .int .i64 0, .int .u64 0, .bool false, .bool false] 0 6 (.agg #[.int .i64 0, .int .i64 0, .int .i64 0, .int .u64 0, .bool false, .bool false]) = some [.int .i64 0, .int .i64 0, .int .i64 0, .int .u64 0, .bool false, .bool false] := gsetn_all rfl rfl (by simp [flatV])
  have rp6 : ∀ (H : GHeap) (i : Nat) (a b c d e f : Value) (u : Nat), (H.put i (.cells [a, b, c, d, e, f] u true)).rdn i 0 6 = some (.agg #[a, b, c, d, e, f]) := fun H i a b c d e f u => rdn_put_all rfl
  simp only [frameOf, Nat.reduceAdd]
  cases hoff : m.off with
  | true =>
    repeat' (first | (exfalso; omega) | refine zn ?_ | refine zK rfl ?_ | refine zP rfl ?_ | ((first | refine zm ?_ | skip); intro _; intros; simp (disch := first | exact zd | fail) only [↓yS, yT, gresults, gone, ↓reduceIte, Nat.reduceEqDiff, Nat.reduceAdd, Nat.reduceMul, reduceCtorEq, Int.reduceToNat, g27, hfl, hli, hoff, hz6, rp6]; first | (rename_i K k; (first | refine yC (k _ _ ?_) | refine zg (k _ ?_)); clear k K) | (rename_i A B C D a b c d; (first | refine zx (a ?_) | refine zy (b ?_) | refine zz (fun hc => c ?_) (fun hc => d ?_) | refine zv (b ?_) | refine zw (a ?_)) <;> clear a b c d A B C D <;> try simp only [yL] at hc)) | refine zA ?_ | refine zB ?_ | refine zF ?_)
    refine hPost _ _ ?_
    unfold ROpenOut
    rw [if_pos hoff]
    exact ⟨rfl, hS1.put (by omega) (by rw [hl1]; omega) _⟩
  | false =>
  have hrn : ∀ H', Same ((H.add (some (.cells (rmC dv m) 0 true))).add (some (.cells [.int .i64 0, .int .i64 0, .int .i64 0, .int .u64 0, .bool false, .bool false] 0 true))) H' → H'.rdn H.len 0 5 = some (rmV dv m) := fun H' hs => by
    rw [hs.rdn (by omega)]
    unfold GHeap.rdn
    rw [mine_cs hm1]; rfl
  have hw1 := hS1.wf
  have hrn1 := hrn _ (Same.refl hw1)
  repeat' (first | (exfalso; omega) | refine zn ?_ | refine zK rfl ?_ | refine zP rfl ?_ | ((first | refine zm ?_ | skip); intro _; intros; simp (disch := first | exact zd | fail) only [↓yS, yT, gresults, gone, ↓reduceIte, Nat.reduceEqDiff, Nat.reduceAdd, Nat.reduceMul, reduceCtorEq, Int.reduceToNat, g27, hfl, hli, hoff, hrn1]; first | (rename_i K k; (first | refine yC (k _ _ ?_) | refine zg (k _ ?_)); clear k K) | (rename_i A B C D a b c d; (first | refine zx (a ?_) | refine zy (b ?_) | refine zz (fun hc => c ?_) (fun hc => d ?_) | refine zv (b ?_) | refine zw (a ?_)) <;> clear a b c d A B C D <;> try simp only [yL] at hc)) | refine zA ?_ | refine zB ?_ | refine zF ?_)
  generalize ((H.add (some (.cells (rmC dv m) 0 true))).add (some (.cells [.int .i64 0, .int .i64 0, .int .i64 0, .int .u64 0, .bool false, .bool false] 0 true))) = H1 at *
  have hout : ∀ r H', (match openJ m.data with
    | none => r = .tuple #[rl0, .slice none 0 0, .int .i64 19] ∧ Same H H'
    | some (l, rs) => ∃ v L, r = .tuple #[rlV l, v, .int .i64 0] ∧ RecQ H H' v L ∧ L.map Prod.fst = rs) → Post r H' := fun r H' hh => hPost r H' (by
      unfold ROpenOut; rw [if_neg (by rw [hoff]; decide)]; exact hh)
  clear hPost
  have hRM : ∀ H', Same H H' → RM H' dv m := fun H' hs => ⟨h.rb.same_ hw hs, hbig, hlow⟩
  refine Gw_s fun K' hK' => G1_call (by simp only [gtarget, ↓GArg.ev, ↓evs, ↓Tr.get_set, Nat.reduceEqDiff, if_true, if_false, ↓reduceIte, Option.map_some]; rfl) (rbank_ok hw1 (hRM _ hS1) (b := 0) (by decide)) fun b0 H2 hq => hK' _ _ ?_
  obtain ⟨hR2, hi2, hS2⟩ := hq
  have hlB := fun b (hb : b < 2) => bankB_length (d := m.data) hb
  repeat' (first | (exfalso; omega) | refine zn ?_ | refine zK rfl ?_ | refine zP rfl ?_ | ((first | refine zm ?_ | skip); intro _; intros; simp (disch := first | exact zd | fail) only [↓yS, yT, gresults, gone, ↓reduceIte, Nat.reduceEqDiff, Nat.reduceAdd, Nat.reduceMul, reduceCtorEq, Int.reduceToNat, g27]; first | (rename_i K k; (first | refine yC (k _ _ ?_) | refine zg (k _ ?_)); clear k K) | (rename_i A B C D a b c d; (first | refine zx (a ?_) | refine zy (b ?_) | refine zz (fun hc => c ?_) (fun hc => d ?_) | refine zv (b ?_) | refine zw (a ?_)) <;> clear a b c d A B C D <;> try simp only [yL] at hc)) | refine zA ?_ | refine zB ?_ | refine zF ?_)
  refine Gw_s fun K' hK' => G1_call (by simp only [gtarget, ↓GArg.ev, ↓evs, ↓Tr.get_set, Nat.reduceEqDiff, if_true, if_false, ↓reduceIte, Option.map_some]; rfl) (rgen_ok hS2.wf hR2 (by rw [hlB 0 (by decide)]; omega) (by rw [hlB 0 (by decide)]; omega)) fun r3 H3 hq => hK' _ _ ?_
  obtain ⟨rfl, hS3⟩ := hq
  have hS13 := hS2.trans hS3
  have hrn3 := hrn _ hS13
  obtain ⟨ga, oka, hga⟩ : ∃ (ga : Nat) (oka : Bool), genV (genB (bankB m.data 0)) = .tuple #[.int .u64 (ga : Int), .bool oka] ∧ (genB (bankB m.data 0) = if oka = true then some ga else none) ∧ (oka = false → ga = 0) := by
    cases hg : genB (bankB m.data 0) with
    | none => exact ⟨0, false, rfl, rfl, fun _ => rfl⟩
    | some g => exact ⟨g, true, rfl, rfl, fun h => by cases h⟩
  obtain ⟨hga1, hga2, hga3⟩ := hga
  rw [hga1]
  repeat' (first | (exfalso; omega) | refine zn ?_ | refine zK rfl ?_ | refine zP rfl ?_ | ((first | refine zm ?_ | skip); intro _; intros; simp (disch := first | exact zd | fail) only [↓yS, yT, gresults, gone, ↓reduceIte, Nat.reduceEqDiff, Nat.reduceAdd, Nat.reduceMul, reduceCtorEq, Int.reduceToNat, g27, hrn3]; first | (rename_i K k; (first | refine yC (k _ _ ?_) | refine zg (k _ ?_)); clear k K) | (rename_i A B C D a b c d; (first | refine zx (a ?_) | refine zy (b ?_) | refine zz (fun hc => c ?_) (fun hc => d ?_) | refine zv (b ?_) | refine zw (a ?_)) <;> clear a b c d A B C D <;> try simp only [yL] at hc)) | refine zA ?_ | refine zB ?_ | refine zF ?_)
  refine Gw_s fun K' hK' => G1_call (by simp only [gtarget, ↓GArg.ev, ↓evs, ↓Tr.get_set, Nat.reduceEqDiff, if_true, if_false, ↓reduceIte, Option.map_some]; rfl) (rbank_ok hS13.wf (hRM _ (hS1.trans hS13)) (b := 1) (by decide)) fun b1 H4 hq => hK' _ _ ?_
  obtain ⟨hR4, hi4, hS4⟩ := hq
  repeat' (first | (exfalso; omega) | refine zn ?_ | refine zK rfl ?_ | refine zP rfl ?_ | ((first | refine zm ?_ | skip); intro _; intros; simp (disch := first | exact zd | fail) only [↓yS, yT, gresults, gone, ↓reduceIte, Nat.reduceEqDiff, Nat.reduceAdd, Nat.reduceMul, reduceCtorEq, Int.reduceToNat, g27]; first | (rename_i K k; (first | refine yC (k _ _ ?_) | refine zg (k _ ?_)); clear k K) | (rename_i A B C D a b c d; (first | refine zx (a ?_) | refine zy (b ?_) | refine zz (fun hc => c ?_) (fun hc => d ?_) | refine zv (b ?_) | refine zw (a ?_)) <;> clear a b c d A B C D <;> try simp only [yL] at hc)) | refine zA ?_ | refine zB ?_ | refine zF ?_)
  refine Gw_s fun K' hK' => G1_call (by simp only [gtarget, ↓GArg.ev, ↓evs, ↓Tr.get_set, Nat.reduceEqDiff, if_true, if_false, ↓reduceIte, Option.map_some]; rfl) (rgen_ok hS4.wf hR4 (by rw [hlB 1 (by decide)]; omega) (by rw [hlB 1 (by decide)]; omega)) fun r5 H5 hq => hK' _ _ ?_
  obtain ⟨rfl, hS5⟩ := hq
  have hS15 := hS13.trans (hS4.trans hS5)
  have hrn5 := hrn _ hS15
  obtain ⟨gb, okb, hgb⟩ : ∃ (gb : Nat) (okb : Bool), genV (genB (bankB m.data 1)) = .tuple #[.int .u64 (gb : Int), .bool okb] ∧ (genB (bankB m.data 1) = if okb = true then some gb else none) ∧ (okb = false → gb = 0) := by
    cases hg : genB (bankB m.data 1) with
    | none => exact ⟨0, false, rfl, rfl, fun _ => rfl⟩
    | some g => exact ⟨g, true, rfl, rfl, fun h => by cases h⟩
  obtain ⟨hgb1, hgb2, hgb3⟩ := hgb
  rw [hgb1]
  have hw5 := hS15.wf
  have hlim5 := hw5.1
  have hl5 := hS15.len
  have hm25 : H5.mine (H.len + 1) = some ([.int .i64 0, .int .i64 0, .int .i64 0, .int .u64 0, .bool false, .bool false], 0) := by rw [hS15.mine (by omega)]; exact hm2
  have hHS5 := hS1.trans hS15
  have hch : chooseB m.data = if oka = false ∧ okb = false then none else if okb = true ∧ (oka = false ∨ ga < gb) then some (1, gb) else some (0, ga) := by
    unfold chooseB
    rw [hga2, hgb2]
    cases oka <;> cases okb <;> simp
  by_cases hno : oka = false ∧ okb = false
  · obtain ⟨rfl, rfl⟩ := hno
    rw [if_pos ⟨rfl, rfl⟩] at hch
    rw [openJ, hch] at hout
    repeat' (first | (exfalso; omega) | refine zn ?_ | refine zK rfl ?_ | refine zP rfl ?_ | ((first | refine zm ?_ | skip); intro _; intros; simp (disch := first | exact zd | fail) only [↓yS, yT, gresults, gone, ↓reduceIte, Nat.reduceEqDiff, Nat.reduceAdd, Nat.reduceMul, reduceCtorEq, Int.reduceToNat, g27, hm25, hz6, rp6]; first | (rename_i K k; (first | refine yC (k _ _ ?_) | refine zg (k _ ?_)); clear k K) | (rename_i A B C D a b c d; (first | refine zx (a ?_) | refine zy (b ?_) | refine zz (fun hc => c ?_) (fun hc => d ?_) | refine zv (b ?_) | refine zw (a ?_)) <;> clear a b c d A B C D <;> try simp only [yL] at hc)) | refine zA ?_ | refine zB ?_ | refine zF ?_)
    exact hout _ _ ⟨rfl, hHS5.put (by omega) (by omega) _⟩
  rw [if_neg hno] at hch
  obtain ⟨bk, g, hch2⟩ : ∃ bk g, chooseB m.data = some (bk, g) := by
    rw [hch]; split <;> exact ⟨_, _, rfl⟩
  have hbk := chooseB_lt hch2
  rw [hch2] at hch
  rw [openJ, hch2] at hout
  dsimp only at hout
  have h4 : (oka = false ∧ okb = true ∧ bk = 1 ∧ g = gb) ∨ (oka = true ∧ okb = true ∧ ga < gb ∧ bk = 1 ∧ g = gb) ∨ (oka = true ∧ okb = false ∧ bk = 0 ∧ g = ga) ∨ (oka = true ∧ okb = true ∧ ¬ ga < gb ∧ bk = 0 ∧ g = ga) := by
    cases oka <;> cases okb <;> simp at hch hno ⊢
    · exact hch
    · exact hch
    · by_cases hlt : ga < gb
      · rw [if_pos hlt] at hch
        simp only [Option.some.injEq, Prod.mk.injEq] at hch
        exact .inl ⟨hlt, hch⟩
      · rw [if_neg hlt] at hch
        simp only [Option.some.injEq, Prod.mk.injEq] at hch
        exact .inr ⟨by omega, hch⟩
  have hS9 := (Same.refl hw5).new (.cells [.int .i64 0, .int .i64 0, .int .i64 0, .int .u64 0, .bool false, .bool false] 0 true) (.cells (rlC ⟨bk, g, 13, 1, false, false⟩) 0 true)
  have hm9 : ((H5.add (some (.cells [.int .i64 0, .int .i64 0, .int .i64 0, .int .u64 0, .bool false, .bool false] 0 true))).put H5.len (.cells (rlC ⟨bk, g, 13, 1, false, false⟩) 0 true)).mine H5.len = some (rlC ⟨bk, g, 13, 1, false, false⟩, 0) := mine_put_same (by rw [lim_add]; exact hlim5)
  have hg6 : ∀ x : Int, gsetn [.int .i64 0, .int .i64 0, .int .i64 0, .int .u64 0, .bool false, .bool false] 0 6 (.agg #[.int .i64 0, .int .i64 13, .int .i64 1, .int .u64 x, .bool false, .bool false]) = some [.int .i64 0, .int .i64 13, .int .i64 1, .int .u64 x, .bool false, .bool false] := fun x => gsetn_all rfl rfl (by simp [flatV])
  have hm9' : ∀ cs : List Value, ((H5.add (some (.cells [.int .i64 0, .int .i64 0, .int .i64 0, .int .u64 0, .bool false, .bool false] 0 true))).put H5.len (.cells cs 0 true)).mine H5.len = some (cs, 0) := fun cs => mine_put_same (by rw [lim_add]; exact hlim5)
  have hrn9 := hrn _ (hS15.trans hS9)
  have hm29 : ((H5.add (some (.cells [.int .i64 0, .int .i64 0, .int .i64 0, .int .u64 0, .bool false, .bool false] 0 true))).put H5.len (.cells (rlC ⟨bk, g, 13, 1, false, false⟩) 0 true)).mine (H.len + 1) = some ([.int .i64 0, .int .i64 0, .int .i64 0, .int .u64 0, .bool false, .bool false], 0) := by rw [hS9.mine (by omega)]; exact hm25
  have hHS9 := hHS5.trans hS9
  rcases h4 with ⟨rfl, rfl, hbk1, hg1⟩ | ⟨rfl, rfl, hlt, hbk1, hg1⟩ | ⟨rfl, rfl, hbk1, hg1⟩ | ⟨rfl, rfl, hlt, hbk1, hg1⟩
  all_goals
    repeat' (first | (exfalso; omega) | refine zn ?_ | refine zK rfl ?_ | refine zP rfl ?_ | ((first | refine zm ?_ | skip); intro _; intros; simp (disch := first | exact zd | fail) only [↓yS, yT, gresults, gone, ↓reduceIte, Nat.reduceEqDiff, Nat.reduceAdd, Nat.reduceMul, reduceCtorEq, Int.reduceToNat, g27, hg6, hm9']; first | (rename_i K k; (first | refine yC (k _ _ ?_) | refine zg (k _ ?_)); clear k K) | (rename_i A B C D a b c d; (first | refine zx (a ?_) | refine zy (b ?_) | refine zz (fun hc => c ?_) (fun hc => d ?_) | refine zv (b ?_) | refine zw (a ?_)) <;> clear a b c d A B C D <;> try simp only [yL] at hc)) | refine zA ?_ | refine zB ?_ | refine zF ?_)
    first
      | rw [show ([.int .i64 1, .int .i64 13, .int .i64 1, .int .u64 gb, .bool false, .bool false] : List Value) = rlC ⟨bk, g, 13, 1, false, false⟩ from by rw [hbk1, hg1]; rfl]
      | rw [show ([.int .i64 0, .int .i64 13, .int .i64 1, .int .u64 ga, .bool false, .bool false] : List Value) = rlC ⟨bk, g, 13, 1, false, false⟩ from by rw [hbk1, hg1]; rfl]
    generalize ((H5.add (some (.cells [.int .i64 0, .int .i64 0, .int .i64 0, .int .u64 0, .bool false, .bool false] 0 true))).put H5.len (.cells (rlC ⟨bk, g, 13, 1, false, false⟩) 0 true)) = H9 at *
    have hw9 := hHS9.wf
    have h90 : H9.rd H5.len 0 = some (.int .i64 (bk : Int)) := mine_rd hm9
    repeat' (first | (exfalso; omega) | refine zn ?_ | refine zK rfl ?_ | refine zP rfl ?_ | ((first | refine zm ?_ | skip); intro _; intros; simp (disch := first | exact zd | fail) only [↓yS, yT, gresults, gone, ↓reduceIte, Nat.reduceEqDiff, Nat.reduceAdd, Nat.reduceMul, reduceCtorEq, Int.reduceToNat, g27, hrn9, h90]; first | (rename_i K k; (first | refine yC (k _ _ ?_) | refine zg (k _ ?_)); clear k K) | (rename_i A B C D a b c d; (first | refine zx (a ?_) | refine zy (b ?_) | refine zz (fun hc => c ?_) (fun hc => d ?_) | refine zv (b ?_) | refine zw (a ?_)) <;> clear a b c d A B C D <;> try simp only [yL] at hc)) | refine zA ?_ | refine zB ?_ | refine zF ?_)
    refine Gw_s fun K' hK' => G1_call (by simp only [gtarget, ↓GArg.ev, ↓evs, ↓Tr.get_set, Nat.reduceEqDiff, if_true, if_false, ↓reduceIte, Option.map_some]; rfl) (rbank_ok hw9 (hRM _ hHS9) hbk) fun bv H10 hq => hK' _ _ ?_
    obtain ⟨hR10, hi10, hS10⟩ := hq
    have hlBk := hlB bk hbk
    have h9l := mine_lt hw9 hm9
    have hm10 : H10.mine H5.len = some (rlC ⟨bk, g, 13, 1, false, false⟩, 0) := by rw [hS10.mine h9l]; exact hm9
    have hm210 : H10.mine (H.len + 1) = some ([.int .i64 0, .int .i64 0, .int .i64 0, .int .u64 0, .bool false, .bool false], 0) := by rw [hS10.mine (mine_lt hw9 hm29)]; exact hm29
    have hHS10 := hHS9.trans hS10
    have hHl : H.len + 1 < H5.len := by omega
    generalize bankB m.data bk = B at *
    generalize H5.len = a9 at *
    repeat' (first | (exfalso; omega) | refine zn ?_ | refine zK rfl ?_ | refine zP rfl ?_ | ((first | refine zm ?_ | skip); intro _; intros; simp (disch := first | exact zd | fail) only [↓yS, yT, gresults, gone, ↓reduceIte, Nat.reduceEqDiff, Nat.reduceAdd, Nat.reduceMul, reduceCtorEq, Int.reduceToNat, g27]; first | (rename_i K k; (first | refine yC (k _ _ ?_) | refine zg (k _ ?_)); clear k K) | (rename_i A B C D a b c d; (first | refine zx (a ?_) | refine zy (b ?_) | refine zz (fun hc => c ?_) (fun hc => d ?_) | refine zv (b ?_) | refine zw (a ?_)) <;> clear a b c d A B C D <;> try simp only [yL] at hc)) | refine zA ?_ | refine zB ?_ | refine zF ?_)
    clear hch hlB hga1 hga2 hgb1 hgb2 hR2 hR4
    refine GW_loop (fun k fr HX => ∃ (f e last : Nat) (v : Value) (L : List RP), k = B.length - e ∧ e < B.length ∧ B.length ≤ f + e ∧ fr.get 2 = some (ptr (H.len + 1)) ∧ fr.get 9 = some (ptr a9) ∧ fr.get 10 = some (bv) ∧ fr.get 11 = some (v) ∧
      HX.mine a9 = some (rlC ⟨bk, g, e, last + 1, false, false⟩, 0) ∧ HX.mine (H.len + 1) = some ([.int .i64 0, .int .i64 0, .int .i64 0, .int .u64 0, .bool false, .bool false], 0) ∧ RB HX bv B ∧ RecQ H HX v L ∧ L.length * 17 ≤ e ∧ last ≤ 1099511627776 + e ∧ (e = 13 ↔ last = 0) ∧ 13 ≤ e ∧
      recsB B B.length 13 0 = (L.map Prod.fst ++ (recsB B f e last).1, (recsB B f e last).2)) ?_ (B.length - 13) ?_
    rotate_left
    · refine ⟨B.length, 13, 0, .slice none 0 0, [], by omega, by omega, by omega, ?_⟩
      simp only [↓yG, Nat.reduceEqDiff, ↓reduceIte, Int.natCast_add, Int.cast_ofNat_Int, Int.natCast_zero, true_and, and_true, Option.some.injEq, Value.int.injEq, ptr]
      exact ⟨hm10, hm210, hR10, RecQ.nil hHS10, by simp, by omega, by omega, rfl⟩
    rintro k fr HX ⟨f, e, last, v, L, rfl, he, hfe, f2, f9, f10, f11, hmX, hm2X, hRX, hTX, hLe, hla, hiff, he13, hrec⟩ J hJ
    have hSX := hTX.own.same
    have hwX := hSX.wf
    have hr1 : HX.rd a9 1 = some (.int .i64 (e : Int)) := mine_rd hmX
    have hr2 : HX.rd a9 2 = some (.int .i64 ((last + 1 : Nat) : Int)) := mine_rd hmX
    have hsl := hRX.isSl
    have hbe : HX.rd (blk bv) (ofs bv + e) = some (.int .u8 B[e]!.toNat) := hRX.read he
    have hz : ((B[e]!.toNat : Int) = 0) ↔ B[e]! = 0 := u8_lit (c := 0) (by decide)
    have hsub : (((last + 1 : Nat) : Int) - 1) = (last : Int) := by omega
    have hne2 : H.len + 1 ≠ a9 := by omega
    -- the end
    have hend : ∀ (l' : JL) HY, HY.mine a9 = some (rlC l', 0) → HY.mine (H.len + 1) = some ([.int .i64 0, .int .i64 0, .int .i64 0, .int .u64 0, .bool false, .bool false], 0) → RecQ H HY v L → HY.rdn a9 0 6 = some (rlV l') ∧ gsetn [.int .i64 0, .int .i64 0, .int .i64 0, .int .u64 0, .bool false, .bool false] 0 6 (rlV l') = some (rlC l') ∧ (HY.put (H.len + 1) (.cells (rlC l') 0 true)).rdn (H.len + 1) 0 6 = some (rlV l') ∧ RecQ H (HY.put (H.len + 1) (.cells (rlC l') 0 true)) v L := fun l' HY h1 h2 h3 => by
      refine ⟨?_, gsetn_all rfl rfl rlC_all, rdn_put_all rfl, ?_⟩
      · unfold GHeap.rdn
        rw [mine_cs h1]; rfl
      · have hwY := h3.own.same.wf
        refine h3.but (S := fun q => q = H.len + 1) ((But.refl (S := fun q => q = H.len + 1) hwY).put rfl (mine_lt hwY h2) _) (fun q hq e => by omega) fun a cs u hm hu e => ?_
        subst e
        rw [h2] at hm
        simp only [Option.some.injEq, Prod.mk.injEq] at hm
        omega
    by_cases hB0 : B[e]! = 0
    · have hz' := hz.2 hB0
      obtain ⟨d1, d2, d3, d4⟩ := hend _ HX hmX hm2X hTX
      repeat' (first | (exfalso; omega) | refine zn ?_ | refine zK rfl ?_ | refine zP rfl ?_ | ((first | refine zm ?_ | skip); intro _; intros; simp (disch := first | exact zd | fail) only [↓yS, yT, gresults, gone, ↓reduceIte, Nat.reduceEqDiff, Nat.reduceAdd, Nat.reduceMul, reduceCtorEq, Int.reduceToNat, g27, f2, f9, f10, f11, ptr, hr1, hsl.ia, hbe, d1, d2, d3, hm2X]; first | (rename_i K k; (first | refine yC (k _ _ ?_) | refine zg (k _ ?_)); clear k K) | (rename_i A B C D a b c d; (first | refine zx (a ?_) | refine zy (b ?_) | refine zz (fun hc => c ?_) (fun hc => d ?_) | refine zv (b ?_) | refine zw (a ?_)) <;> clear a b c d A B C D <;> try simp only [yL] at hc)) | refine zA ?_ | refine zB ?_ | refine zF ?_)
      refine hout _ _ ⟨v, L, ?_, d4, ?_⟩
      · rw [hrec, recs_end hB0]
      · rw [hrec, recs_end hB0]; simp
    have hz' : ¬ (B[e]!.toNat : Int) = 0 := fun hh => hB0 (hz.1 hh)
    obtain ⟨f, rfl⟩ : ∃ f', f = f' + 1 := ⟨f - 1, by omega⟩
    have hstep : recsB B (f + 1) e last = match readB B e last with
        | none => ([], e, last, true)
        | some r => (r :: (recsB B f (e + 17 + r.data.length) r.num).1, (recsB B f (e + 17 + r.data.length) r.num).2) := by rw [recsB, if_neg hB0]; rfl
    repeat' (first | (exfalso; omega) | refine zn ?_ | refine zK rfl ?_ | refine zP rfl ?_ | ((first | refine zm ?_ | skip); intro _; intros; simp (disch := first | exact zd | fail) only [↓yS, yT, gresults, gone, ↓reduceIte, Nat.reduceEqDiff, Nat.reduceAdd, Nat.reduceMul, reduceCtorEq, Int.reduceToNat, g27, f2, f9, f10, f11, ptr, hr1, hr2, hsl.ia, hbe, hsub]; first | (rename_i K k; (first | refine yC (k _ _ ?_) | refine zg (k _ ?_)); clear k K) | (rename_i A B C D a b c d; (first | refine zx (a ?_) | refine zy (b ?_) | refine zz (fun hc => c ?_) (fun hc => d ?_) | refine zv (b ?_) | refine zw (a ?_)) <;> clear a b c d A B C D <;> try simp only [yL] at hc)) | refine zA ?_ | refine zB ?_ | refine zF ?_)
    refine Gw_s fun K' hK' => G1_call (by simp only [gtarget, ↓GArg.ev, ↓evs, ↓Tr.get_set, Nat.reduceEqDiff, if_true, if_false, ↓reduceIte, Option.map_some, f2, f9, f10, f11]; rfl) (rread_ok hwX hRX (by omega) (o := e) (last := last) he (by omega) hiff) fun r4 H4' hq => hK' _ _ ?_
    cases hr : readB B e last with
    | none =>
      rw [hr] at hq hstep
      obtain ⟨hS4', rfl⟩ := hq
      have hw4' := hS4'.wf
      have hlim4' := hw4'.1
      have hS5' := (Same.refl hw4').new (.cells [.int .i64 0, .bool false, .slice none 0 0] 0 true) (.cells [.int .i64 0, .bool false, .slice none 0 0] 0 true)
      have hz3 : gsetn [.int .i64 0, .bool false, .slice none 0 0] 0 3 (.agg #[.int .i64 0, .bool false, .slice none 0 0]) = some [.int .i64 0, .bool false, .slice none 0 0] := gsetn_all rfl rfl (by simp [flatV])
      have hSS := hS4'.trans hS5'
      have hmY : ((H4'.add (some (.cells [.int .i64 0, .bool false, .slice none 0 0] 0 true))).put H4'.len (.cells [.int .i64 0, .bool false, .slice none 0 0] 0 true)).mine a9 = some (rlC ⟨bk, g, e, last + 1, false, false⟩, 0) := by rw [hSS.mine (mine_lt hwX hmX)]; exact hmX
      have hm2Y : ((H4'.add (some (.cells [.int .i64 0, .bool false, .slice none 0 0] 0 true))).put H4'.len (.cells [.int .i64 0, .bool false, .slice none 0 0] 0 true)).mine (H.len + 1) = some ([.int .i64 0, .int .i64 0, .int .i64 0, .int .u64 0, .bool false, .bool false], 0) := by rw [hSS.mine (mine_lt hwX hm2X)]; exact hm2X
      have hTY := hTX.later hSS
      repeat' (first | (exfalso; omega) | refine zn ?_ | refine zK rfl ?_ | refine zP rfl ?_ | ((first | refine zm ?_ | skip); intro _; intros; simp (disch := first | exact zd | fail) only [↓yS, yT, gresults, gone, ↓reduceIte, Nat.reduceEqDiff, Nat.reduceAdd, Nat.reduceMul, reduceCtorEq, Int.reduceToNat, g27, f2, f9, f10, f11, ptr, hz3]; first | (rename_i K k; (first | refine yC (k _ _ ?_) | refine zg (k _ ?_)); clear k K) | (rename_i A B C D a b c d; (first | refine zx (a ?_) | refine zy (b ?_) | refine zz (fun hc => c ?_) (fun hc => d ?_) | refine zv (b ?_) | refine zw (a ?_)) <;> clear a b c d A B C D <;> try simp only [yL] at hc)) | refine zA ?_ | refine zB ?_ | refine zF ?_)
      generalize ((H4'.add (some (.cells [.int .i64 0, .bool false, .slice none 0 0] 0 true))).put H4'.len (.cells [.int .i64 0, .bool false, .slice none 0 0] 0 true)) = HY at *
      have hwY := hSS.wf
      have hgs : gset (rlC ⟨bk, g, e, last + 1, false, false⟩) 4 (.bool true) = some (rlC ⟨bk, g, e, last + 1, false, true⟩) := by
        rw [gset_ok (by simp [rlC]) (by simp [flatV])]; rfl
      have hmZ : (HY.put a9 (.cells (rlC ⟨bk, g, e, last + 1, false, true⟩) 0 true)).mine a9 = some (rlC ⟨bk, g, e, last + 1, false, true⟩, 0) := mine_put_same (mine_obj hmY).1
      have hm2Z : (HY.put a9 (.cells (rlC ⟨bk, g, e, last + 1, false, true⟩) 0 true)).mine (H.len + 1) = some ([.int .i64 0, .int .i64 0, .int .i64 0, .int .u64 0, .bool false, .bool false], 0) := by rw [mine_put_ne (by omega)]; exact hm2Y
      have hTZ : RecQ H (HY.put a9 (.cells (rlC ⟨bk, g, e, last + 1, false, true⟩) 0 true)) v L := by
        refine hTY.but (S := fun q => q = a9) ((But.refl (S := fun q => q = a9) hwY).put rfl (mine_lt hwY hmY) _) (fun q hq e => by omega) fun a cs u hm hu e => ?_
        subst e
        rw [hmY] at hm
        simp only [Option.some.injEq, Prod.mk.injEq] at hm
        omega
      obtain ⟨d1, d2, d3, d4⟩ := hend _ _ hmZ hm2Z hTZ
      repeat' (first | (exfalso; omega) | refine zn ?_ | refine zK rfl ?_ | refine zP rfl ?_ | ((first | refine zm ?_ | skip); intro _; intros; simp (disch := first | exact zd | fail) only [↓yS, yT, gresults, gone, ↓reduceIte, Nat.reduceEqDiff, Nat.reduceAdd, Nat.reduceMul, reduceCtorEq, Int.reduceToNat, g27, f2, f9, f10, f11, ptr, hmY, hgs]; first | (rename_i K k; (first | refine yC (k _ _ ?_) | refine zg (k _ ?_)); clear k K) | (rename_i A B C D a b c d; (first | refine zx (a ?_) | refine zy (b ?_) | refine zz (fun hc => c ?_) (fun hc => d ?_) | refine zv (b ?_) | refine zw (a ?_)) <;> clear a b c d A B C D <;> try simp only [yL] at hc)) | refine zA ?_ | refine zB ?_ | refine zF ?_)
      generalize (HY.put a9 (.cells (rlC ⟨bk, g, e, last + 1, false, true⟩) 0 true)) = HZ at *
      repeat' (first | (exfalso; omega) | refine zn ?_ | refine zK rfl ?_ | refine zP rfl ?_ | ((first | refine zm ?_ | skip); intro _; intros; simp (disch := first | exact zd | fail) only [↓yS, yT, gresults, gone, ↓reduceIte, Nat.reduceEqDiff, Nat.reduceAdd, Nat.reduceMul, reduceCtorEq, Int.reduceToNat, g27, f2, f9, f10, f11, ptr, d1, d2, d3, hm2Z]; first | (rename_i K k; (first | refine yC (k _ _ ?_) | refine zg (k _ ?_)); clear k K) | (rename_i A B C D a b c d; (first | refine zx (a ?_) | refine zy (b ?_) | refine zz (fun hc => c ?_) (fun hc => d ?_) | refine zv (b ?_) | refine zw (a ?_)) <;> clear a b c d A B C D <;> try simp only [yL] at hc)) | refine zA ?_ | refine zB ?_ | refine zF ?_)
      refine hout _ _ ⟨v, L, ?_, d4, ?_⟩
      · rw [hrec, hstep]
      · rw [hrec, hstep]; simp
    | some x =>
      rw [hr] at hq hstep
      obtain ⟨dv', rfl, hO4⟩ := hq
      obtain ⟨hrs1, hrs2, hrs3⟩ := readB_some hr
      have hS4' := hO4.same
      have hw4' := hS4'.wf
      have hlim4' := hw4'.1
      have hdf := hO4.rb.flat
      have hdl := hO4.rb.isSl.len
      have hg3 : gsetn [.int .i64 0, .bool false, .slice none 0 0] 0 3 (recV x dv') = some (recC (x, dv')) := gsetn_all rfl rfl (by
        show ([.int .i64 (x.num : Int), .bool x.state, dv'] : List Value).all flatV = true
        simp only [List.all_cons, List.all_nil, hdf]; rfl)
      have hS5' := (Same.refl hw4').new (.cells [.int .i64 0, .bool false, .slice none 0 0] 0 true) (.cells (recC (x, dv')) 0 true)
      have hSS := hS4'.trans hS5'
      have hmY : ((H4'.add (some (.cells [.int .i64 0, .bool false, .slice none 0 0] 0 true))).put H4'.len (.cells (recC (x, dv')) 0 true)).mine a9 = some (rlC ⟨bk, g, e, last + 1, false, false⟩, 0) := by rw [hSS.mine (mine_lt hwX hmX)]; exact hmX
      have hm2Y : ((H4'.add (some (.cells [.int .i64 0, .bool false, .slice none 0 0] 0 true))).put H4'.len (.cells (recC (x, dv')) 0 true)).mine (H.len + 1) = some ([.int .i64 0, .int .i64 0, .int .i64 0, .int .u64 0, .bool false, .bool false], 0) := by rw [hSS.mine (mine_lt hwX hm2X)]; exact hm2X
      have hmR : ((H4'.add (some (.cells [.int .i64 0, .bool false, .slice none 0 0] 0 true))).put H4'.len (.cells (recC (x, dv')) 0 true)).mine H4'.len = some (recC (x, dv'), 0) := mine_put_same (by rw [lim_add]; exact hlim4')
      have hrR : ((H4'.add (some (.cells [.int .i64 0, .bool false, .slice none 0 0] 0 true))).put H4'.len (.cells (recC (x, dv')) 0 true)).rdn H4'.len 0 3 = some (.agg #[.int .i64 x.num, .bool x.state, dv']) := rdn_put_all rfl
      have hTY := hTX.later hSS
      have hRY := hRX.same_ hwX hSS
      have hOY := hO4.later hS5'
      have hlY : ((H4'.add (some (.cells [.int .i64 0, .bool false, .slice none 0 0] 0 true))).put H4'.len (.cells (recC (x, dv')) 0 true)).len = H4'.len + 1 := by simp only [len_put, len_add]
      have hfr := fill_recv (k := (x.num : Int)) (t := x.state) hdf
      repeat' (first | (exfalso; omega) | refine zn ?_ | refine zK rfl ?_ | refine zP rfl ?_ | ((first | refine zm ?_ | skip); intro _; intros; simp (disch := first | exact zd | fail) only [↓yS, yT, gresults, gone, ↓reduceIte, Nat.reduceEqDiff, Nat.reduceAdd, Nat.reduceMul, reduceCtorEq, Int.reduceToNat, g27, f2, f9, f10, f11, ptr, hg3, hrR, hfr]; first | (rename_i K k; (first | refine yC (k _ _ ?_) | refine zg (k _ ?_)); clear k K) | (rename_i A B C D a b c d; (first | refine zx (a ?_) | refine zy (b ?_) | refine zz (fun hc => c ?_) (fun hc => d ?_) | refine zv (b ?_) | refine zw (a ?_)) <;> clear a b c d A B C D <;> try simp only [yL] at hc)) | refine zA ?_ | refine zB ?_ | refine zF ?_)
      generalize ((H4'.add (some (.cells [.int .i64 0, .bool false, .slice none 0 0] 0 true))).put H4'.len (.cells (recC (x, dv')) 0 true)) = HY at *
      have h4lt : HX.len ≤ H4'.len := hS4'.len
      have hmXlt := mine_lt hwX hmX
      obtain ⟨v6, H6, e6, hT6, hB6⟩ := hTY.snoc (x := (x, dv')) hOY.rb hOY.u257 (by omega)
      have hno : ∀ a cs u, HY.mine a = some (cs, u) → u ≠ 3 → ¬ a ∈ idOf v := fun a cs u hm hu ha => by
        have h1 := (hTY.own.ids ha).2.2
        rw [hm] at h1
        simp only [Option.some.injEq, Prod.mk.injEq] at h1
        exact hu h1.2
      have hwY := hSS.wf
      have hm6 : H6.mine a9 = some (rlC ⟨bk, g, e, last + 1, false, false⟩, 0) := by rw [hB6.mine (mine_lt hwY hmY) (hno _ _ _ hmY (by decide))]; exact hmY
      have hm26 : H6.mine (H.len + 1) = some ([.int .i64 0, .int .i64 0, .int .i64 0, .int .u64 0, .bool false, .bool false], 0) := by rw [hB6.mine (mine_lt hwY hm2Y) (hno _ _ _ hm2Y (by decide))]; exact hm2Y
      have hmR6 : H6.mine H4'.len = some (recC (x, dv'), 0) := by rw [hB6.mine (mine_lt hwY hmR) (hno _ _ _ hmR (by decide))]; exact hmR
      have hids9 : ∀ a ∈ idOf bv, a < H.len := fun a ha => hids a (hi10 a ha)
      have hR6 := hRY.but hwY hB6 fun a ha hb => by
        have h1 := hids9 a ha
        have h2 := (hTY.own.ids hb).1
        omega
      refine Gw_s fun K' hK' => ?_
      simp (disch := first | exact zd | fail) only [↓yS, yT, ↓reduceIte, Nat.reduceEqDiff, Nat.reduceAdd, Nat.reduceMul, reduceCtorEq, Int.reduceToNat, f2, f9, f10, f11]
      refine G1_eq (by first | exact e6 | (rw [hlY] at e6; exact e6)) (hK' _ _ ?_)
      clear hK' K' e6
      have q1 : H6.rd H4'.len 0 = some (.int .i64 x.num) := mine_rd hmR6
      have q2 : H6.rd H4'.len 2 = some dv' := mine_rd hmR6
      have q3 : H6.rd a9 1 = some (.int .i64 (e : Int)) := mine_rd hm6
      have hne9 : H4'.len ≠ a9 := by omega
      have hw6 := hT6.own.same.wf
      have hlim6 := (mine_obj hm6).1
      have hgs2 : gset (rlC ⟨bk, g, e, last + 1, false, false⟩) 2 (.int .i64 ((x.num : Int) + 1)) = some (rlC ⟨bk, g, e, x.num + 1, false, false⟩) := by
        rw [gset_ok (by simp [rlC]) (by simp [flatV])]; rfl
      have hgs1 : gset (rlC ⟨bk, g, e, x.num + 1, false, false⟩) 1 (.int .i64 ((e : Int) + (17 + (x.data.length : Int)))) = some (rlC ⟨bk, g, e + 17 + x.data.length, x.num + 1, false, false⟩) := by
        rw [gset_ok (by simp [rlC]) (by simp [flatV])]
        have : (e : Int) + (17 + (x.data.length : Int)) = ((e + 17 + x.data.length : Nat) : Int) := by omega
        rw [this]; rfl
      have hnum : x.num ≤ 1099511627776 + e + 1 := by
        by_cases h0 : last = 0
        · have := (hrs2 h0).2; omega
        · have := hrs3 h0; omega
      repeat' (first | (exfalso; omega) | refine zn ?_ | refine zK rfl ?_ | refine zP rfl ?_ | ((first | refine zm ?_ | skip); intro _; intros; simp (disch := first | exact zd | fail) only [↓yS, yT, gresults, gone, ↓reduceIte, Nat.reduceEqDiff, Nat.reduceAdd, Nat.reduceMul, reduceCtorEq, Int.reduceToNat, g27, f2, f9, f10, f11, ptr, q1, q2, q3, hdl, hm6, hgs2, hgs1, put_put]; first | (rename_i K k; (first | refine yC (k _ _ ?_) | refine zg (k _ ?_)); clear k K) | (rename_i A B C D a b c d; (first | refine zx (a ?_) | refine zy (b ?_) | refine zz (fun hc => c ?_) (fun hc => d ?_) | refine zv (b ?_) | refine zw (a ?_)) <;> clear a b c d A B C D <;> try simp only [yL] at hc)) | refine zA ?_ | refine zB ?_ | refine zF ?_)
      have hB7 : But (fun q => q = a9) H6 (H6.put a9 (.cells (rlC ⟨bk, g, e + 17 + x.data.length, x.num + 1, false, false⟩) 0 true)) := (But.refl (S := fun q => q = a9) hw6).put rfl (mine_lt hw6 hm6) _
      refine hJ _ _ ⟨B.length - (e + 17 + x.data.length), by omega, f, e + 17 + x.data.length, x.num, v6, L ++ [(x, dv')], rfl, by omega, by omega, ?_⟩
      simp only [↓yG, Nat.reduceEqDiff, ↓reduceIte, Int.natCast_add, Int.cast_ofNat_Int, Int.natCast_zero, true_and, and_true, Option.some.injEq, Value.int.injEq, ptr, f2, f9, f10, f11]
      refine ⟨mine_put_same hlim6, by rw [mine_put_ne (by omega)]; exact hm26, hR6.but hw6 hB7 (fun a ha e => by have := hids9 a ha; omega), hT6.but hB7 (fun q hq e => by omega) (fun a cs u hm hu e => ?_), ?_, ?_, ?_, ?_, ?_⟩
      · subst e
        rw [hm6] at hm
        simp only [Option.some.injEq, Prod.mk.injEq] at hm
        omega
      · simp only [List.length_append, List.length_singleton]; omega
      · by_cases h0 : last = 0
        · have := (hrs2 h0).2; omega
        · have := hrs3 h0; omega
      · have : 1 ≤ x.num := by
          by_cases h0 : last = 0
          · exact (hrs2 h0).1
          · have := hrs3 h0; omega
        omega
      · omega
      · rw [hrec, hstep]
        simp [List.append_assoc]
end Go.Gh
