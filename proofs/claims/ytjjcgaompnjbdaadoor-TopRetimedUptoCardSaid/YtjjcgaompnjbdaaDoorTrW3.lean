/-
  region, walked: lists of regions, the region with a name, places.
-/
import Derived.Test.YtjjcgaompnjbdaaDoorTrW2
namespace Go.Gh
set_option linter.unusedSimpArgs false
set_option linter.unusedVariables false
set_option maxHeartbeats 4000000
open Go.RowKit
set_option maxRecDepth 4000

/-- an error that is 0 where something holds -/
def ErrIs (r : Value) (p : Prop) : Prop := ∃ n : Int, r = .int .i64 n ∧ (n = 0 ↔ p)
theorem ErrIs.yes {p : Prop} (h : p) : ErrIs (.int .i64 0) p := ⟨0, rfl, fun _ => h, fun _ => rfl⟩
theorem ErrIs.no {p : Prop} {n : Int} (hn : n ≠ 0) (h : ¬ p) : ErrIs (.int .i64 n) p := ⟨n, rfl, fun e => absurd e hn, fun e => absurd e h⟩
theorem gb_lssS {e : Option EqK} {x y : ByteArray} : gbin .lss e (.string x) (.string y) = some (.bool (Op.bytesLess x.toList y.toList)) := by simp [gbin, gstr]
theorem bang_mem {α : Type} [Inhabited α] {l : List α} {j : Nat} (h : j < l.length) : l[j]! ∈ l := by rw [getElem!_pos l j h]; exact List.getElem_mem _
theorem checkList_ok {H : GHeap} (hw : H.wf) {v : Value} {l : List Rg} (hv : RgR H v l) (hl : l.length ≤ 1048576) (hs : ∀ r ∈ l, smG r) :
    ∃ r H', gev G 16 [v] H = some (r, H') ∧ (ErrIs r (rgsOk l) ∧ Same H H') := by
  refine gev_GW (f := 16) rfl fun Post hPost => ?_
  have hlim := hw.1
  have hsl := hv.rd.isSl
  simp only [frameOf, Nat.reduceAdd]
  repeat' (first | refine zn ?_ | refine zK rfl ?_ | refine zP rfl ?_ | ((first | refine zm ?_ | skip); intro _; intros; simp (disch := first | exact zd | fail) only [↓yS, yT, gresults, gone, ↓reduceIte, Nat.reduceEqDiff, Nat.reduceAdd, Nat.reduceMul, reduceCtorEq, Int.reduceToNat, g16, hsl.len]; first | (rename_i K k; (first | refine yC (k _ _ ?_) | refine zg (k _ ?_)); clear k K) | (rename_i A B C D a b c d; (first | refine zx (a ?_) | refine zy (b ?_) | refine zz (fun hc => c ?_) (fun hc => d ?_) | refine zv (b ?_) | refine zw (a ?_)) <;> clear a b c d A B C D <;> try simp only [yL] at hc)) | refine zA ?_ | refine zB ?_ | refine zF ?_)
  case refine_1 => exact hPost _ _ ⟨ErrIs.no (by decide) fun h => by have := h.1; omega, Same.refl hw⟩
  refine GW_loop (fun k fr H1 => ∃ j : Nat, k = l.length - j ∧ j ≤ l.length ∧ fr.get 0 = some (v) ∧ fr.get 9 = some (v) ∧ fr.get 10 = some (.int .i64 l.length) ∧ fr.get 11 = some (.int .i64 j) ∧ Same H H1 ∧ ∀ i, i < j → rgOk l[i]! ∧ (0 < i → l[i]!.nm ≠ l[i - 1]!.nm ∧ Op.bytesLess (strB l[i]!.nm).toList (strB l[i - 1]!.nm).toList = false)) ?_ l.length ?_
  case refine_2.refine_2 =>
    refine ⟨0, by omega, by omega, ?_⟩
    simp only [↓yG, Nat.reduceEqDiff, ↓reduceIte, Int.natCast_add, Int.cast_ofNat_Int, Int.natCast_zero, true_and, and_true, Option.some.injEq, Value.int.injEq]
    exact ⟨Same.refl hw, fun i hi => absurd hi (by omega)⟩
  rintro k fr H1 ⟨j, rfl, hj, f0, f9, f10, f11, hS, hall⟩ J hJ
  have hw1 := hS.wf
  have hlim1 := hw1.1
  by_cases hj1 : j < l.length
  · have hvl : RgR H1 v l := GArg1.same hv hw hS
    have e1 := hvl.rowN hj1
    have hsm := hs _ (bang_mem hj1)
    have hnx : (rgOk l[j]! ∧ (0 < j → l[j]!.nm ≠ l[j - 1]!.nm ∧ Op.bytesLess (strB l[j]!.nm).toList (strB l[j - 1]!.nm).toList = false)) → ∀ i, i < j + 1 → rgOk l[i]! ∧ (0 < i → l[i]!.nm ≠ l[i - 1]!.nm ∧ Op.bytesLess (strB l[i]!.nm).toList (strB l[i - 1]!.nm).toList = false) := fun h i hi => by
      by_cases e : i = j
      · subst e; exact h
      · exact hall i (by omega)
    have hbd : ∀ {n : Int} {H'}, n ≠ 0 → Same H H' → ¬ (rgOk l[j]! ∧ (0 < j → l[j]!.nm ≠ l[j - 1]!.nm ∧ Op.bytesLess (strB l[j]!.nm).toList (strB l[j - 1]!.nm).toList = false)) → Post (.int .i64 n) H' := fun hn hS' h => hPost _ _ ⟨ErrIs.no hn fun hh => h (hh.2 j hj1), hS'⟩
    have hp : 0 < j → H1.rd (blk v) (ofs v + (j - 1) * 7) = some (.string (strB l[j - 1]!.nm)) := fun h0 => hvl.row (k := j - 1) (c := 0) (by omega) (by decide)
    generalize l[j]! = x at *
    generalize l[j - 1]! = y at *
    have hS12 : Same H1 ((H1.add (some (.cells [.string ⟨#[]⟩, .int .i64 0, .int .i64 0, .int .i64 0, .int .i64 0, .int .u8 0, .bool false] 0 true))).put H1.len (.cells (rgC x) 0 true)) := (Same.refl hw1).new _ _
    clear hall
    repeat' (first | (exfalso; omega) | refine zn ?_ | refine zK rfl ?_ | refine zP rfl ?_ | ((first | refine zm ?_ | skip); intro _; intros; simp (disch := first | exact zd | fail) only [↓yS, yT, gresults, gone, ↓reduceIte, Nat.reduceEqDiff, Nat.reduceAdd, Nat.reduceMul, reduceCtorEq, Int.reduceToNat, g16, f0, f9, f10, f11, RG, hsl.ia, e1]; first | (rename_i K k; (first | refine yC (k _ _ ?_) | refine zg (k _ ?_)); clear k K) | (rename_i A B C D a b c d; (first | refine zx (a ?_) | refine zy (b ?_) | refine zz (fun hc => c ?_) (fun hc => d ?_) | refine zv (b ?_) | refine zw (a ?_)) <;> clear a b c d A B C D <;> try simp only [yL] at hc)) | refine zA ?_ | refine zB ?_ | refine zF ?_)
    refine Gw_s fun K' hK' => G1_call (by simp only [gtarget, ↓GArg.ev, ↓evs, ↓Tr.get_set, Nat.reduceEqDiff, if_true, if_false, ↓reduceIte, Option.map_some, f0, f9, f10, f11, RG]; rfl) (one_of (rgCheck_ok hsm _)) fun r1 H2 hq => hK' _ _ ?_
    obtain ⟨rfl, rfl⟩ := hq
    have hS2 := hS.trans hS12
    by_cases hx : rgE x = 0
    case neg =>
      repeat' (first | (exfalso; omega) | refine zn ?_ | refine zK rfl ?_ | refine zP rfl ?_ | ((first | refine zm ?_ | skip); intro _; intros; simp (disch := first | exact zd | fail) only [↓yS, yT, gresults, gone, ↓reduceIte, Nat.reduceEqDiff, Nat.reduceAdd, Nat.reduceMul, reduceCtorEq, Int.reduceToNat, g16, f0, f9, f10, f11, RG]; first | (rename_i K k; (first | refine yC (k _ _ ?_) | refine zg (k _ ?_)); clear k K) | (rename_i A B C D a b c d; (first | refine zx (a ?_) | refine zy (b ?_) | refine zz (fun hc => c ?_) (fun hc => d ?_) | refine zv (b ?_) | refine zw (a ?_)) <;> clear a b c d A B C D <;> try simp only [yL] at hc)) | refine zA ?_ | refine zB ?_ | refine zF ?_)
      all_goals exact hbd hx hS2 fun h => hx ((rgE_ok x).2 h.1)
    have hok := (rgE_ok x).1 hx
    have hgo : ∀ {fr'} , (0 < j → x.nm ≠ y.nm ∧ Op.bytesLess (strB x.nm).toList (strB y.nm).toList = false) → fr'.get 0 = some (v) ∧ fr'.get 9 = some (v) ∧ fr'.get 10 = some (.int .i64 l.length) ∧ fr'.get 11 = some (.int .i64 ((j + 1 : Nat) : Int)) → J fr' ((H1.add (some (.cells [.string ⟨#[]⟩, .int .i64 0, .int .i64 0, .int .i64 0, .int .i64 0, .int .u8 0, .bool false] 0 true))).put H1.len (.cells (rgC x) 0 true)) := fun h ⟨g0, g9, g10, g11⟩ =>
      hJ _ _ ⟨l.length - (j + 1), by omega, j + 1, rfl, by omega, g0, g9, g10, g11, hS2, hnx ⟨hok, h⟩⟩
    clear hJ hnx
    rw [hx]
    by_cases h0 : 0 < j
    case neg =>
      have d0 : decide ((0 : Int) < j) = false := decide_eq_false (by omega)
      repeat' (first | (exfalso; omega) | refine zn ?_ | refine zK rfl ?_ | refine zP rfl ?_ | ((first | refine zm ?_ | skip); intro _; intros; simp (disch := first | exact zd | fail) only [↓yS, yT, gresults, gone, ↓reduceIte, Nat.reduceEqDiff, Nat.reduceAdd, Nat.reduceMul, reduceCtorEq, Int.reduceToNat, g16, f0, f9, f10, f11, RG, d0]; first | (rename_i K k; (first | refine yC (k _ _ ?_) | refine zg (k _ ?_)); clear k K) | (rename_i A B C D a b c d; (first | refine zx (a ?_) | refine zy (b ?_) | refine zz (fun hc => c ?_) (fun hc => d ?_) | refine zv (b ?_) | refine zw (a ?_)) <;> clear a b c d A B C D <;> try simp only [yL] at hc)) | refine zA ?_ | refine zB ?_ | refine zF ?_)
      refine hgo (fun h => absurd h h0) ?_
      simp only [↓yG, Nat.reduceEqDiff, ↓reduceIte, Int.natCast_add, Int.cast_ofNat_Int, Int.natCast_zero, true_and, and_true, Option.some.injEq, Value.int.injEq, f0, f9, f10]
    have d0 : decide ((0 : Int) < j) = true := decide_eq_true (by omega)
    have hp2 := (hS12.rd (i := blk v) (o := ofs v + (j - 1) * 7) (hvl.rd.lt (by omega))).trans (hp h0)
    have hia : gia none 7 v (.int .i64 ((j : Int) - 1)) = some (.pointer (some ⟨blk v, ofs v + (j - 1) * 7, none⟩)) := by
      rw [hsl.ia (by omega) (by omega)]
      congr 5
      omega
    have x0 : ((H1.add (some (.cells [.string ⟨#[]⟩, .int .i64 0, .int .i64 0, .int .i64 0, .int .i64 0, .int .u8 0, .bool false] 0 true))).put H1.len (.cells (rgC x) 0 true)).rd H1.len 0 = some (.string (strB x.nm)) := by rw [rd_put_same]; rfl
    generalize (H1.add (some (.cells [.string ⟨#[]⟩, .int .i64 0, .int .i64 0, .int .i64 0, .int .i64 0, .int .u8 0, .bool false] 0 true))).put H1.len (.cells (rgC x) 0 true) = H2 at *
    repeat' (first | (exfalso; omega) | refine zn ?_ | refine zK rfl ?_ | refine zP rfl ?_ | ((first | refine zm ?_ | skip); intro _; intros; simp (disch := first | exact zd | fail) only [↓yS, yT, gresults, gone, ↓reduceIte, Nat.reduceEqDiff, Nat.reduceAdd, Nat.reduceMul, reduceCtorEq, Int.reduceToNat, g16, f0, f9, f10, f11, RG, d0, hia, hp2, x0, gb_lssS]; first | (rename_i K k; (first | refine yC (k _ _ ?_) | refine zg (k _ ?_)); clear k K) | (rename_i A B C D a b c d; (first | refine zx (a ?_) | refine zy (b ?_) | refine zz (fun hc => c ?_) (fun hc => d ?_) | refine zv (b ?_) | refine zw (a ?_)) <;> clear a b c d A B C D <;> try simp only [yL] at hc)) | refine zA ?_ | refine zB ?_ | refine zF ?_)
    case pos.refine_1 => exact hbd (by decide) hS2 fun h => (h.2 h0).1 hc
    case pos.refine_2.refine_1 => exact hbd (by decide) hS2 fun h => by rw [(h.2 h0).2] at hc; cases hc
    refine hgo (fun _ => ⟨by assumption, by simpa using hc⟩) ?_
    simp only [↓yG, Nat.reduceEqDiff, ↓reduceIte, Int.natCast_add, Int.cast_ofNat_Int, Int.natCast_zero, true_and, and_true, Option.some.injEq, Value.int.injEq, f0, f9, f10]
  · obtain rfl : j = l.length := by omega
    repeat' (first | (exfalso; omega) | refine zn ?_ | refine zK rfl ?_ | refine zP rfl ?_ | ((first | refine zm ?_ | skip); intro _; intros; simp (disch := first | exact zd | fail) only [↓yS, yT, gresults, gone, ↓reduceIte, Nat.reduceEqDiff, Nat.reduceAdd, Nat.reduceMul, reduceCtorEq, Int.reduceToNat, g16, f0, f9, f10, f11]; first | (rename_i K k; (first | refine yC (k _ _ ?_) | refine zg (k _ ?_)); clear k K) | (rename_i A B C D a b c d; (first | refine zx (a ?_) | refine zy (b ?_) | refine zz (fun hc => c ?_) (fun hc => d ?_) | refine zv (b ?_) | refine zw (a ?_)) <;> clear a b c d A B C D <;> try simp only [yL] at hc)) | refine zA ?_ | refine zB ?_ | refine zF ?_)
    by_cases hl16 : l.length ≤ 16
    · exact hPost _ _ ⟨ErrIs.yes ⟨hl16, hall⟩, hS⟩
    · exact absurd hc (by omega)
theorem find_at {α : Type} [Inhabited α] {p : α → Bool} : ∀ {l : List α} {j : Nat}, j < l.length → (∀ i, i < j → p l[i]! = false) → p l[j]! = true → l.find? p = some l[j]!
  | x :: l, 0, _, _, h => by
    have h : p x = true := h
    rw [List.find?_cons, h]; rfl
  | x :: l, j + 1, hj, h0, h => by
    have hx : p x = false := h0 0 (by omega)
    rw [List.find?_cons, hx, List.getElem!_cons_succ]
    exact find_at (by simpa using hj) (fun i hi => by have := h0 (i + 1) (by omega); rwa [List.getElem!_cons_succ] at this) (by rwa [List.getElem!_cons_succ] at h)
/-- the region with a name -/
def findV (R : List Rg) (n : List UInt8) : Rg × Bool := match findR R n with
  | some r => (r, true)
  | none => (⟨[], 0, 0, 0, 0, 0, false⟩, false)
theorem find_ok {H : GHeap} (hw : H.wf) {v : Value} {l : List Rg} (hv : RgR H v l) (hl : l.length ≤ 1048576) (n : List UInt8) :
    ∃ r H', gev G 30 [v, .string (strB n)] H = some (r, H') ∧ (r = .tuple #[rgV (findV l n).1, .bool (findV l n).2] ∧ Same H H') := by
  refine gev_GW (f := 30) rfl fun Post hPost => ?_
  have hlim := hw.1
  have hsl := hv.rd.isSl
  simp only [frameOf, Nat.reduceAdd]
  by_cases hn : n = []
  · have hF : findV l n = (dfl, true) := by unfold findV findR; rw [if_pos hn]
    rw [hF] at hPost
    subst hn
    have d1 : decide (([] : List UInt8) = []) = true := rfl
    repeat' (first | refine zn ?_ | refine zK rfl ?_ | refine zP rfl ?_ | ((first | refine zm ?_ | skip); intro _; intros; simp (disch := first | exact zd | fail) only [↓yS, yT, gresults, gone, ↓reduceIte, Nat.reduceEqDiff, Nat.reduceAdd, Nat.reduceMul, reduceCtorEq, Int.reduceToNat, g30, RG, gb_eqE]; first | (rename_i K k; (first | refine yC (k _ _ ?_) | refine zg (k _ ?_)); clear k K) | (rename_i A B C D a b c d; (first | refine zx (a ?_) | refine zy (b ?_) | refine zz (fun hc => c ?_) (fun hc => d ?_) | refine zv (b ?_) | refine zw (a ?_)) <;> clear a b c d A B C D <;> try simp only [yL] at hc)) | refine zA ?_ | refine zB ?_ | refine zF ?_)
    refine Gw_s fun K' hK' => G1_call (by simp only [gtarget, ↓GArg.ev, ↓evs, ↓Tr.get_set, Nat.reduceEqDiff, if_true, if_false, ↓reduceIte, Option.map_some]; rfl) (one_of (default_ok _)) fun r1 H2 hq => hK' _ _ ?_
    obtain ⟨rfl, rfl⟩ := hq
    repeat' (first | refine zn ?_ | refine zK rfl ?_ | refine zP rfl ?_ | ((first | refine zm ?_ | skip); intro _; intros; simp (disch := first | exact zd | fail) only [↓yS, yT, gresults, gone, ↓reduceIte, Nat.reduceEqDiff, Nat.reduceAdd, Nat.reduceMul, reduceCtorEq, Int.reduceToNat, g30, RG]; first | (rename_i K k; (first | refine yC (k _ _ ?_) | refine zg (k _ ?_)); clear k K) | (rename_i A B C D a b c d; (first | refine zx (a ?_) | refine zy (b ?_) | refine zz (fun hc => c ?_) (fun hc => d ?_) | refine zv (b ?_) | refine zw (a ?_)) <;> clear a b c d A B C D <;> try simp only [yL] at hc)) | refine zA ?_ | refine zB ?_ | refine zF ?_)
    exact hPost _ _ ⟨rfl, (Same.refl hw).new _ _⟩
  have hF : findV l n = match l.find? fun r => decide (r.nm = n) with
    | some r => (r, true)
    | none => (⟨[], 0, 0, 0, 0, 0, false⟩, false) := by unfold findV findR; rw [if_neg hn]
  have d1 : decide (n = []) = false := decide_eq_false hn
  repeat' (first | refine zn ?_ | refine zK rfl ?_ | refine zP rfl ?_ | ((first | refine zm ?_ | skip); intro _; intros; simp (disch := first | exact zd | fail) only [↓yS, yT, gresults, gone, ↓reduceIte, Nat.reduceEqDiff, Nat.reduceAdd, Nat.reduceMul, reduceCtorEq, Int.reduceToNat, g30, RG, gb_eqE, d1, hsl.len]; first | (rename_i K k; (first | refine yC (k _ _ ?_) | refine zg (k _ ?_)); clear k K) | (rename_i A B C D a b c d; (first | refine zx (a ?_) | refine zy (b ?_) | refine zz (fun hc => c ?_) (fun hc => d ?_) | refine zv (b ?_) | refine zw (a ?_)) <;> clear a b c d A B C D <;> try simp only [yL] at hc)) | refine zA ?_ | refine zB ?_ | refine zF ?_)
  rw [hF] at hPost
  obtain ⟨Hz, hHz⟩ : ∃ Hz, Hz = H.add (some (.cells [.string ⟨#[]⟩, .int .i64 0, .int .i64 0, .int .i64 0, .int .i64 0, .int .u8 0, .bool false] 0 true)) := ⟨_, rfl⟩
  rw [← hHz]
  have hSz : Same H Hz := hHz ▸ (Same.refl hw).add _
  have hm : Hz.mine H.len = some ([.string ⟨#[]⟩, .int .i64 0, .int .i64 0, .int .i64 0, .int .i64 0, .int .u8 0, .bool false], 0) := by rw [hHz, mine_add_eq rfl hw.1]
  have hlz : H.len < Hz.len := by rw [hHz, len_add]; omega
  clear hHz
  refine GW_loop (fun k fr H1 => ∃ j : Nat, k = l.length - j ∧ j ≤ l.length ∧ fr.get 1 = some (.string (strB n)) ∧ fr.get 4 = some (.pointer (some ⟨H.len, 0, none⟩)) ∧ fr.get 11 = some (v) ∧ fr.get 12 = some (.int .i64 l.length) ∧ fr.get 13 = some (.int .i64 j) ∧ Same Hz H1 ∧ ∀ i, i < j → l[i]!.nm ≠ n) ?_ l.length ?_
  case refine_2 =>
    refine ⟨0, by omega, by omega, ?_⟩
    simp only [↓yG, Nat.reduceEqDiff, ↓reduceIte, Int.natCast_add, Int.cast_ofNat_Int, Int.natCast_zero, true_and, and_true, Option.some.injEq, Value.int.injEq]
    exact ⟨Same.refl hSz.wf, fun i hi => absurd hi (by omega)⟩
  rintro k fr H1 ⟨j, rfl, hj, f1, f4, f11, f12, f13, hS1, hall⟩ J hJ
  have hS := hSz.trans hS1
  have hw1 := hS.wf
  have hlim1 := hw1.1
  have hl1 := hS1.len
  have hm1 : H1.mine H.len = some ([.string ⟨#[]⟩, .int .i64 0, .int .i64 0, .int .i64 0, .int .i64 0, .int .u8 0, .bool false], 0) := (hS1.mine hlz).trans hm
  have hput : ∀ {H2 o}, Same H1 H2 → Same H (H2.put H.len o) := fun h => (hS.trans h).put (Nat.le_refl _) (by have := h.len; omega) _
  by_cases hj1 : j < l.length
  · have hvl : RgR H1 v l := GArg1.same hv hw hS
    have e1 := hvl.rowN hj1
    have hyes : l[j]!.nm = n → l.find? (fun r => decide (r.nm = n)) = some l[j]! := fun h => find_at hj1 (fun i hi => by simpa using hall i hi) (by simpa using h)
    have hno : ∀ h : l[j]!.nm ≠ n, ∀ i, i < j + 1 → l[i]!.nm ≠ n := fun h i hi => by
      by_cases e : i = j
      · subst e; exact h
      · exact hall i (by omega)
    generalize l[j]! = x at *
    have hS12 : Same H1 ((H1.add (some (.cells [.string ⟨#[]⟩, .int .i64 0, .int .i64 0, .int .i64 0, .int .i64 0, .int .u8 0, .bool false] 0 true))).put H1.len (.cells (rgC x) 0 true)) := (Same.refl hw1).new _ _
    repeat' (first | (exfalso; omega) | refine zn ?_ | refine zK rfl ?_ | refine zP rfl ?_ | ((first | refine zm ?_ | skip); intro _; intros; simp (disch := first | exact zd | fail) only [↓yS, yT, gresults, gone, ↓reduceIte, Nat.reduceEqDiff, Nat.reduceAdd, Nat.reduceMul, reduceCtorEq, Int.reduceToNat, g30, f1, f4, f11, f12, f13, RG, hsl.ia, e1, hm1]; first | (rename_i K k; (first | refine yC (k _ _ ?_) | refine zg (k _ ?_)); clear k K) | (rename_i A B C D a b c d; (first | refine zx (a ?_) | refine zy (b ?_) | refine zz (fun hc => c ?_) (fun hc => d ?_) | refine zv (b ?_) | refine zw (a ?_)) <;> clear a b c d A B C D <;> try simp only [yL] at hc)) | refine zA ?_ | refine zB ?_ | refine zF ?_)
    case pos.refine_1 =>
      rw [hyes hc] at hPost
      exact hPost _ _ ⟨rfl, hput hS12⟩
    refine hJ _ _ ⟨l.length - (j + 1), by omega, j + 1, rfl, by omega, ?_⟩
    simp only [↓yG, Nat.reduceEqDiff, ↓reduceIte, Int.natCast_add, Int.cast_ofNat_Int, Int.natCast_zero, true_and, and_true, Option.some.injEq, Value.int.injEq, f1, f4, f11, f12]
    exact ⟨hS1.trans hS12, hno hc⟩
  · obtain rfl : j = l.length := by omega
    have hnone : l.find? (fun r => decide (r.nm = n)) = none := List.find?_eq_none.2 fun r hr => by
      obtain ⟨i, hi, rfl⟩ := List.getElem_of_mem hr
      have := hall i hi
      rw [getElem!_pos l i hi] at this
      simpa using this
    rw [hnone] at hPost
    repeat' (first | (exfalso; omega) | refine zn ?_ | refine zK rfl ?_ | refine zP rfl ?_ | ((first | refine zm ?_ | skip); intro _; intros; simp (disch := first | exact zd | fail) only [↓yS, yT, gresults, gone, ↓reduceIte, Nat.reduceEqDiff, Nat.reduceAdd, Nat.reduceMul, reduceCtorEq, Int.reduceToNat, g30, f1, f4, f11, f12, f13, RG, hm1]; first | (rename_i K k; (first | refine yC (k _ _ ?_) | refine zg (k _ ?_)); clear k K) | (rename_i A B C D a b c d; (first | refine zx (a ?_) | refine zy (b ?_) | refine zz (fun hc => c ?_) (fun hc => d ?_) | refine zv (b ?_) | refine zw (a ?_)) <;> clear a b c d A B C D <;> try simp only [yL] at hc)) | refine zA ?_ | refine zB ?_ | refine zF ?_)
    exact hPost _ _ ⟨rfl, hput (Same.refl hw1)⟩
theorem findV_sm {l : List Rg} {n : List UInt8} (hs : ∀ r ∈ l, smG r) : smG (findV l n).1 := by
  unfold findV findR
  split
  · rename_i r h
    split at h
    · cases h; exact ⟨by decide, by decide, by decide⟩
    · exact hs r (List.mem_of_find?_eq_some h)
  · exact ⟨by decide, by decide, by decide⟩
theorem findV_some {l : List Rg} {n : List UInt8} {r : Rg} (h : findR l n = some r) : findV l n = (r, true) := by unfold findV; rw [h]
theorem findV_none {l : List Rg} {n : List UInt8} (h : findR l n = none) : (findV l n).2 = false := by unfold findV; rw [h]
end Go.Gh
