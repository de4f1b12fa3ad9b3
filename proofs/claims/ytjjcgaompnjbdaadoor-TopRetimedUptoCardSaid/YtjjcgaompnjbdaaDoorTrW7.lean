/-
  event and document, walked: the error of an event; the header of a document.
-/
import Derived.Test.YtjjcgaompnjbdaaDoorTrW6
namespace Go.Gh
set_option linter.unusedSimpArgs false
set_option linter.unusedVariables false
set_option maxHeartbeats 4000000
open Go.RowKit
set_option maxRecDepth 4000

theorem evCheck_ok {H : GHeap} (hw : H.wf) {e : Ev} (hT : TR H e.v e.L) (hs : smE e) {v : Value} {R : List Rg} (hR : RgR H v R) (hRl : R.length ≤ 1048576) (hRs : ∀ r ∈ R, smG r) :
    ∃ r H', gev G 17 [evV e, v] H = some (r, H') ∧ (ErrIs r (evOk R e) ∧ Same H H') := by
  refine gev_GW (f := 17) rfl fun Post hPost => ?_
  have hlim := hw.1
  have hsl := hT.isSl
  have fe := ev_cflat hT.rd.flat
  obtain ⟨hs1, hs2, hs3, hs4, hs5⟩ := hs
  have hrl : e.rows.length = e.L.length := by simp [Ev.rows]
  have hbd : ∀ {n : Int} {H'}, n ≠ 0 → Same H H' → ¬ evOk R e → Post (.int .i64 n) H' := fun hn hS h => hPost _ _ ⟨ErrIs.no hn h, hS⟩
  simp only [frameOf, Nat.reduceAdd]
  repeat' (first | refine zn ?_ | refine zK rfl ?_ | refine zP rfl ?_ | ((first | refine zm ?_ | skip); intro _; intros; simp (disch := first | exact zd | fail) only [↓yS, yT, gresults, gone, ↓reduceIte, Nat.reduceEqDiff, Nat.reduceAdd, Nat.reduceMul, reduceCtorEq, Int.reduceToNat, g17, RE, RG, fe]; first | (rename_i K k; (first | refine yC (k _ _ ?_) | refine zg (k _ ?_)); clear k K) | (rename_i A B C D a b c d; (first | refine zx (a ?_) | refine zy (b ?_) | refine zz (fun hc => c ?_) (fun hc => d ?_) | refine zv (b ?_) | refine zw (a ?_)) <;> clear a b c d A B C D <;> try simp only [yL] at hc)) | refine zA ?_ | refine zB ?_ | refine zF ?_)
  have hS1 : Same H (H.add (some (.cells (evC e) 0 true))) := (Same.refl hw).add _
  refine Gw_s fun K' hK' => G1_call (by simp only [gtarget, ↓GArg.ev, ↓evs, ↓Tr.get_set, Nat.reduceEqDiff, if_true, if_false, ↓reduceIte, Option.map_some, RE]; rfl) (find_ok hS1.wf (GArg1.same hR hw hS1) hRl e.rg) fun r2 H2 hq => hK' _ _ ?_
  obtain ⟨rfl, hS2⟩ := hq
  have hS12 := hS1.trans hS2
  have hw2 := hS12.wf
  have hlim2 := hw2.1
  have hl1 : H.len < (H.add (some (.cells (evC e) 0 true))).len := by rw [len_add]; omega
  have hl2 : H.len < H2.len := Nat.lt_of_lt_of_le hl1 hS2.len
  have hfs := findV_sm (n := e.rg) hRs
  have hfv : findV R e.rg = match findR R e.rg with
    | some r => (r, true)
    | none => (⟨[], 0, 0, 0, 0, 0, false⟩, false) := rfl
  have hF : ∀ r, findR R e.rg = some r → (findV R e.rg).1 = r ∧ (findV R e.rg).2 = true := fun r h => by rw [hfv, h]; exact ⟨rfl, rfl⟩
  have hF0 : (findV R e.rg).2 = true → findR R e.rg = some (findV R e.rg).1 := fun h => by
    rw [hfv] at h ⊢
    cases hr : findR R e.rg with
    | none => rw [hr] at h; cases h
    | some r => rfl
  clear hfv
  generalize findV R e.rg = q at *
  obtain ⟨r, fnd⟩ := q
  simp only at hF hF0 hfs
  have a0 : ∀ c, H2.rd H.len c = (evC e)[c]? := fun c => by rw [hS2.rd hl1, rd_add_eq rfl]
  have a12 : H2.rdn H.len 1 2 = some (s2 e.i e.o) := by rw [hS2.rdn hl1, rdn_ev2 rfl]
  have a7 : H2.rdn H.len 0 7 = some (evV e) := by rw [hS2.rdn hl1, rdn_ev rfl]
  obtain ⟨H3, hH3⟩ : ∃ H3, H3 = (H2.add (some (.cells [.string ⟨#[]⟩, .int .i64 0, .int .i64 0, .int .i64 0, .int .i64 0, .int .u8 0, .bool false] 0 true))).put H2.len (.cells (rgC r) 0 true) := ⟨_, rfl⟩
  have hS23 : Same H2 H3 := hH3 ▸ (Same.refl hw2).new _ _
  have hl3 : H.len < H3.len := Nat.lt_of_lt_of_le hl2 hS23.len
  have hl23 : H2.len < H3.len := by rw [hH3]; simp only [len_put, len_add]; omega
  have hS3 := hS12.trans hS23
  have b7 : H3.rdn H2.len 0 7 = some (rgV r) := by rw [hH3, rdn_rgp]
  repeat' (first | refine zn ?_ | refine zK rfl ?_ | refine zP rfl ?_ | ((first | refine zm ?_ | skip); intro _; intros; simp (disch := first | exact zd | fail) only [↓yS, yT, gresults, gone, ↓reduceIte, Nat.reduceEqDiff, Nat.reduceAdd, Nat.reduceMul, reduceCtorEq, Int.reduceToNat, g17, RE, RG, hH3.symm]; first | (rename_i K k; (first | refine yC (k _ _ ?_) | refine zg (k _ ?_)); clear k K) | (rename_i A B C D a b c d; (first | refine zx (a ?_) | refine zy (b ?_) | refine zz (fun hc => c ?_) (fun hc => d ?_) | refine zv (b ?_) | refine zw (a ?_)) <;> clear a b c d A B C D <;> try simp only [yL] at hc)) | refine zA ?_ | refine zB ?_ | refine zF ?_)
  have b0 : ∀ c, H3.rd H.len c = (evC e)[c]? := fun c => by rw [hS23.rd hl2]; exact a0 c
  have b12 : H3.rdn H.len 1 2 = some (s2 e.i e.o) := by rw [hS23.rdn hl2]; exact a12
  have b17 : H3.rdn H.len 0 7 = some (evV e) := by rw [hS23.rdn hl2]; exact a7
  have c0 := b0 0
  have c3 := b0 3
  have c4 := b0 4
  have c5 := b0 5
  have c6 := b0 6
  rw [evC_0] at c0
  rw [evC_4] at c4
  rw [evC_5] at c5
  rw [evC_6] at c6
  clear c3
  by_cases hid : 1 ≤ e.id ∧ e.id ≤ 1099511627776
  case neg =>
    repeat' (first | refine zn ?_ | refine zK rfl ?_ | refine zP rfl ?_ | ((first | refine zm ?_ | skip); intro _; intros; simp (disch := first | exact zd | fail) only [↓yS, yT, gresults, gone, ↓reduceIte, Nat.reduceEqDiff, Nat.reduceAdd, Nat.reduceMul, reduceCtorEq, Int.reduceToNat, g17, c0]; first | (rename_i K k; (first | refine yC (k _ _ ?_) | refine zg (k _ ?_)); clear k K) | (rename_i A B C D a b c d; (first | refine zx (a ?_) | refine zy (b ?_) | refine zz (fun hc => c ?_) (fun hc => d ?_) | refine zv (b ?_) | refine zw (a ?_)) <;> clear a b c d A B C D <;> try simp only [yL] at hc)) | refine zA ?_ | refine zB ?_ | refine zF ?_)
    all_goals first | exact hbd (by decide) hS3 fun h => hid h.1 | (exfalso; omega)
  have d1 : decide (e.id < 1) = false := decide_eq_false (by omega)
  have d2 : decide ((1099511627776 : Int) < e.id) = false := decide_eq_false (by omega)
  repeat' (first | refine zn ?_ | refine zK rfl ?_ | refine zP rfl ?_ | ((first | refine zm ?_ | skip); intro _; intros; simp (disch := first | exact zd | fail) only [↓yS, yT, gresults, gone, ↓reduceIte, Nat.reduceEqDiff, Nat.reduceAdd, Nat.reduceMul, reduceCtorEq, Int.reduceToNat, g17, c0, d1, d2, b12]; first | (rename_i K k; (first | refine yC (k _ _ ?_) | refine zg (k _ ?_)); clear k K) | (rename_i A B C D a b c d; (first | refine zx (a ?_) | refine zy (b ?_) | refine zz (fun hc => c ?_) (fun hc => d ?_) | refine zv (b ?_) | refine zw (a ?_)) <;> clear a b c d A B C D <;> try simp only [yL] at hc)) | refine zA ?_ | refine zB ?_ | refine zF ?_)
  intro K' hK'; refine G1_call (by simp only [gtarget, ↓GArg.ev, ↓evs, ↓Tr.get_set, Nat.reduceEqDiff, if_true, if_false, ↓reduceIte, Option.map_some, b12]; rfl) (one_of (spans_ok _)) fun r4 H4 hq => hK' _ _ ?_
  obtain ⟨rfl, rfl⟩ := hq
  by_cases hsp : 0 ≤ e.i ∧ e.i < e.o ∧ e.o ≤ 5184000
  case neg =>
    have d3 : decide (0 ≤ e.i ∧ e.i < e.o ∧ e.o ≤ 5184000) = false := decide_eq_false hsp
    repeat' (first | refine zn ?_ | refine zK rfl ?_ | refine zP rfl ?_ | ((first | refine zm ?_ | skip); intro _; intros; simp (disch := first | exact zd | fail) only [↓yS, yT, gresults, gone, ↓reduceIte, Nat.reduceEqDiff, Nat.reduceAdd, Nat.reduceMul, reduceCtorEq, Int.reduceToNat, g17, d3, Bool.not_false]; first | (rename_i K k; (first | refine yC (k _ _ ?_) | refine zg (k _ ?_)); clear k K) | (rename_i A B C D a b c d; (first | refine zx (a ?_) | refine zy (b ?_) | refine zz (fun hc => c ?_) (fun hc => d ?_) | refine zv (b ?_) | refine zw (a ?_)) <;> clear a b c d A B C D <;> try simp only [yL] at hc)) | refine zA ?_ | refine zB ?_ | refine zF ?_)
    exact hbd (by decide) hS3 fun h => hsp h.2.1
  have d3 : decide (0 ≤ e.i ∧ e.i < e.o ∧ e.o ≤ 5184000) = true := decide_eq_true hsp
  cases fnd with
  | false =>
    repeat' (first | refine zn ?_ | refine zK rfl ?_ | refine zP rfl ?_ | ((first | refine zm ?_ | skip); intro _; intros; simp (disch := first | exact zd | fail) only [↓yS, yT, gresults, gone, ↓reduceIte, Nat.reduceEqDiff, Nat.reduceAdd, Nat.reduceMul, reduceCtorEq, Int.reduceToNat, g17, d3, Bool.not_true, Bool.not_false]; first | (rename_i K k; (first | refine yC (k _ _ ?_) | refine zg (k _ ?_)); clear k K) | (rename_i A B C D a b c d; (first | refine zx (a ?_) | refine zy (b ?_) | refine zz (fun hc => c ?_) (fun hc => d ?_) | refine zv (b ?_) | refine zw (a ?_)) <;> clear a b c d A B C D <;> try simp only [yL] at hc)) | refine zA ?_ | refine zB ?_ | refine zF ?_)
    exact hbd (by decide) hS3 fun h => by
      obtain ⟨r', h1, _⟩ := h.2.2.2.2.2.2
      have := (hF r' h1).2; cases this
  | true =>
  have hfr := hF0 rfl
  repeat' (first | refine zn ?_ | refine zK rfl ?_ | refine zP rfl ?_ | ((first | refine zm ?_ | skip); intro _; intros; simp (disch := first | exact zd | fail) only [↓yS, yT, gresults, gone, ↓reduceIte, Nat.reduceEqDiff, Nat.reduceAdd, Nat.reduceMul, reduceCtorEq, Int.reduceToNat, g17, d3, Bool.not_true, c4]; first | (rename_i K k; (first | refine yC (k _ _ ?_) | refine zg (k _ ?_)); clear k K) | (rename_i A B C D a b c d; (first | refine zx (a ?_) | refine zy (b ?_) | refine zz (fun hc => c ?_) (fun hc => d ?_) | refine zv (b ?_) | refine zw (a ?_)) <;> clear a b c d A B C D <;> try simp only [yL] at hc)) | refine zA ?_ | refine zB ?_ | refine zF ?_)
  refine Gw_s fun K' hK' => G1_call (by simp only [gtarget, ↓GArg.ev, ↓evs, ↓Tr.get_set, Nat.reduceEqDiff, if_true, if_false, ↓reduceIte, Option.map_some, c4]; rfl) (one_of (kind_ok hs3 _)) fun r4 H4 hq => hK' _ _ ?_
  obtain ⟨rfl, rfl⟩ := hq
  by_cases hk : 1 ≤ e.kd ∧ e.kd ≤ 4
  case neg =>
    have d4 : decide (kndB e.kd = []) = true := decide_eq_true ((kndB_nil _).2 hk)
    repeat' (first | refine zn ?_ | refine zK rfl ?_ | refine zP rfl ?_ | ((first | refine zm ?_ | skip); intro _; intros; simp (disch := first | exact zd | fail) only [↓yS, yT, gresults, gone, ↓reduceIte, Nat.reduceEqDiff, Nat.reduceAdd, Nat.reduceMul, reduceCtorEq, Int.reduceToNat, g17, gb_eqE, d4]; first | (rename_i K k; (first | refine yC (k _ _ ?_) | refine zg (k _ ?_)); clear k K) | (rename_i A B C D a b c d; (first | refine zx (a ?_) | refine zy (b ?_) | refine zz (fun hc => c ?_) (fun hc => d ?_) | refine zv (b ?_) | refine zw (a ?_)) <;> clear a b c d A B C D <;> try simp only [yL] at hc)) | refine zA ?_ | refine zB ?_ | refine zF ?_)
    exact hbd (by decide) hS3 fun h => hk h.2.2.1
  have d4 : decide (kndB e.kd = []) = false := decide_eq_false fun h => (kndB_nil _).1 h hk
  by_cases hsk : e.sp = [] ∨ nameF e.sp = true
  case neg =>
    have d5 : decide (¬ e.sp = []) = true := decide_eq_true fun h => hsk (.inl h)
    have d6 : nameF e.sp = false := Bool.eq_false_iff.2 fun h => hsk (.inr h)
    repeat' (first | refine zn ?_ | refine zK rfl ?_ | refine zP rfl ?_ | ((first | refine zm ?_ | skip); intro _; intros; simp (disch := first | exact zd | fail) only [↓yS, yT, gresults, gone, ↓reduceIte, Nat.reduceEqDiff, Nat.reduceAdd, Nat.reduceMul, reduceCtorEq, Int.reduceToNat, g17, gb_eqE, gb_neE, d4, c5, d5]; first | (rename_i K k; (first | refine yC (k _ _ ?_) | refine zg (k _ ?_)); clear k K) | (rename_i A B C D a b c d; (first | refine zx (a ?_) | refine zy (b ?_) | refine zz (fun hc => c ?_) (fun hc => d ?_) | refine zv (b ?_) | refine zw (a ?_)) <;> clear a b c d A B C D <;> try simp only [yL] at hc)) | refine zA ?_ | refine zB ?_ | refine zF ?_)
    intro K' hK'; refine G1_call (by simp only [gtarget, ↓GArg.ev, ↓evs, ↓Tr.get_set, Nat.reduceEqDiff, if_true, if_false, ↓reduceIte, Option.map_some, c5]; rfl) (one_of (name_ok hs2 _)) fun r4 H4 hq => hK' _ _ ?_
    obtain ⟨rfl, rfl⟩ := hq
    repeat' (first | refine zn ?_ | refine zK rfl ?_ | refine zP rfl ?_ | ((first | refine zm ?_ | skip); intro _; intros; simp (disch := first | exact zd | fail) only [↓yS, yT, gresults, gone, ↓reduceIte, Nat.reduceEqDiff, Nat.reduceAdd, Nat.reduceMul, reduceCtorEq, Int.reduceToNat, g17, d6, Bool.not_false]; first | (rename_i K k; (first | refine yC (k _ _ ?_) | refine zg (k _ ?_)); clear k K) | (rename_i A B C D a b c d; (first | refine zx (a ?_) | refine zy (b ?_) | refine zz (fun hc => c ?_) (fun hc => d ?_) | refine zv (b ?_) | refine zw (a ?_)) <;> clear a b c d A B C D <;> try simp only [yL] at hc)) | refine zA ?_ | refine zB ?_ | refine zF ?_)
    exact hbd (by decide) hS3 fun h => hsk h.2.2.2.1
  by_cases hL : 1 ≤ e.L.length ∧ e.L.length ≤ 4
  case neg =>
    by_cases hsp0 : e.sp = []
    · have d5 : decide (¬ e.sp = []) = false := decide_eq_false fun h => h hsp0
      repeat' (first | refine zn ?_ | refine zK rfl ?_ | refine zP rfl ?_ | ((first | refine zm ?_ | skip); intro _; intros; simp (disch := first | exact zd | fail) only [↓yS, yT, gresults, gone, ↓reduceIte, Nat.reduceEqDiff, Nat.reduceAdd, Nat.reduceMul, reduceCtorEq, Int.reduceToNat, g17, gb_eqE, gb_neE, d4, c5, d5, c6, hsl.len]; first | (rename_i K k; (first | refine yC (k _ _ ?_) | refine zg (k _ ?_)); clear k K) | (rename_i A B C D a b c d; (first | refine zx (a ?_) | refine zy (b ?_) | refine zz (fun hc => c ?_) (fun hc => d ?_) | refine zv (b ?_) | refine zw (a ?_)) <;> clear a b c d A B C D <;> try simp only [yL] at hc)) | refine zA ?_ | refine zB ?_ | refine zF ?_)
      all_goals first | exact hbd (by decide) hS3 fun h => hL (by have := h.2.2.2.2.1; rwa [hrl] at this) | (exfalso; omega)
    · have d5 : decide (¬ e.sp = []) = true := decide_eq_true hsp0
      have d6 := hsk.resolve_left hsp0
      repeat' (first | refine zn ?_ | refine zK rfl ?_ | refine zP rfl ?_ | ((first | refine zm ?_ | skip); intro _; intros; simp (disch := first | exact zd | fail) only [↓yS, yT, gresults, gone, ↓reduceIte, Nat.reduceEqDiff, Nat.reduceAdd, Nat.reduceMul, reduceCtorEq, Int.reduceToNat, g17, gb_eqE, gb_neE, d4, c5, d5]; first | (rename_i K k; (first | refine yC (k _ _ ?_) | refine zg (k _ ?_)); clear k K) | (rename_i A B C D a b c d; (first | refine zx (a ?_) | refine zy (b ?_) | refine zz (fun hc => c ?_) (fun hc => d ?_) | refine zv (b ?_) | refine zw (a ?_)) <;> clear a b c d A B C D <;> try simp only [yL] at hc)) | refine zA ?_ | refine zB ?_ | refine zF ?_)
      intro K' hK'; refine G1_call (by simp only [gtarget, ↓GArg.ev, ↓evs, ↓Tr.get_set, Nat.reduceEqDiff, if_true, if_false, ↓reduceIte, Option.map_some, c5]; rfl) (one_of (name_ok hs2 _)) fun r4 H4 hq => hK' _ _ ?_
      obtain ⟨rfl, rfl⟩ := hq
      repeat' (first | refine zn ?_ | refine zK rfl ?_ | refine zP rfl ?_ | ((first | refine zm ?_ | skip); intro _; intros; simp (disch := first | exact zd | fail) only [↓yS, yT, gresults, gone, ↓reduceIte, Nat.reduceEqDiff, Nat.reduceAdd, Nat.reduceMul, reduceCtorEq, Int.reduceToNat, g17, d6, Bool.not_true, c6, hsl.len]; first | (rename_i K k; (first | refine yC (k _ _ ?_) | refine zg (k _ ?_)); clear k K) | (rename_i A B C D a b c d; (first | refine zx (a ?_) | refine zy (b ?_) | refine zz (fun hc => c ?_) (fun hc => d ?_) | refine zv (b ?_) | refine zw (a ?_)) <;> clear a b c d A B C D <;> try simp only [yL] at hc)) | refine zA ?_ | refine zB ?_ | refine zF ?_)
      all_goals first | exact hbd (by decide) hS3 fun h => hL (by have := h.2.2.2.2.1; rwa [hrl] at this) | (exfalso; omega)
  have d7 : decide ((e.L.length : Int) = 0) = false := decide_eq_false (by omega)
  have d8 : decide ((4 : Int) < e.L.length) = false := decide_eq_false (by omega)
  by_cases hsp0 : e.sp = []
  case' pos =>
    have d5 : decide (¬ e.sp = []) = false := decide_eq_false fun h => h hsp0
    repeat' (first | refine zn ?_ | refine zK rfl ?_ | refine zP rfl ?_ | ((first | refine zm ?_ | skip); intro _; intros; simp (disch := first | exact zd | fail) only [↓yS, yT, gresults, gone, ↓reduceIte, Nat.reduceEqDiff, Nat.reduceAdd, Nat.reduceMul, reduceCtorEq, Int.reduceToNat, g17, gb_eqE, gb_neE, d4, c5, d5, c6, hsl.len, d7, d8]; first | (rename_i K k; (first | refine yC (k _ _ ?_) | refine zg (k _ ?_)); clear k K) | (rename_i A B C D a b c d; (first | refine zx (a ?_) | refine zy (b ?_) | refine zz (fun hc => c ?_) (fun hc => d ?_) | refine zv (b ?_) | refine zw (a ?_)) <;> clear a b c d A B C D <;> try simp only [yL] at hc)) | refine zA ?_ | refine zB ?_ | refine zF ?_)
  case' neg =>
    have d5 : decide (¬ e.sp = []) = true := decide_eq_true hsp0
    have d6 := hsk.resolve_left hsp0
    repeat' (first | refine zn ?_ | refine zK rfl ?_ | refine zP rfl ?_ | ((first | refine zm ?_ | skip); intro _; intros; simp (disch := first | exact zd | fail) only [↓yS, yT, gresults, gone, ↓reduceIte, Nat.reduceEqDiff, Nat.reduceAdd, Nat.reduceMul, reduceCtorEq, Int.reduceToNat, g17, gb_eqE, gb_neE, d4, c5, d5]; first | (rename_i K k; (first | refine yC (k _ _ ?_) | refine zg (k _ ?_)); clear k K) | (rename_i A B C D a b c d; (first | refine zx (a ?_) | refine zy (b ?_) | refine zz (fun hc => c ?_) (fun hc => d ?_) | refine zv (b ?_) | refine zw (a ?_)) <;> clear a b c d A B C D <;> try simp only [yL] at hc)) | refine zA ?_ | refine zB ?_ | refine zF ?_)
    intro K' hK'; refine G1_call (by simp only [gtarget, ↓GArg.ev, ↓evs, ↓Tr.get_set, Nat.reduceEqDiff, if_true, if_false, ↓reduceIte, Option.map_some, c5]; rfl) (one_of (name_ok hs2 _)) fun r4 H4 hq => hK' _ _ ?_
    obtain ⟨rfl, rfl⟩ := hq
    repeat' (first | refine zn ?_ | refine zK rfl ?_ | refine zP rfl ?_ | ((first | refine zm ?_ | skip); intro _; intros; simp (disch := first | exact zd | fail) only [↓yS, yT, gresults, gone, ↓reduceIte, Nat.reduceEqDiff, Nat.reduceAdd, Nat.reduceMul, reduceCtorEq, Int.reduceToNat, g17, d6, Bool.not_true, c6, hsl.len, d7, d8]; first | (rename_i K k; (first | refine yC (k _ _ ?_) | refine zg (k _ ?_)); clear k K) | (rename_i A B C D a b c d; (first | refine zx (a ?_) | refine zy (b ?_) | refine zz (fun hc => c ?_) (fun hc => d ?_) | refine zv (b ?_) | refine zw (a ?_)) <;> clear a b c d A B C D <;> try simp only [yL] at hc)) | refine zA ?_ | refine zB ?_ | refine zF ?_)
  all_goals
    clear d1 d2 d3 d4 d7 d8 c0 c4 c5 c6 b12
    refine GW_loop (fun k fr H5 => ∃ j : Nat, k = e.L.length - j ∧ j ≤ e.L.length ∧ fr.get 2 = some (.pointer (some ⟨H.len, 0, none⟩)) ∧ fr.get 5 = some (.pointer (some ⟨H2.len, 0, none⟩)) ∧ fr.get 64 = some (e.v) ∧ fr.get 65 = some (.int .i64 e.L.length) ∧ fr.get 66 = some (.int .i64 j) ∧ Same H4 H5 ∧ ∀ x ∈ e.L.take j, rowOk x.2) ?_ e.L.length ?_
    rotate_left
    · refine ⟨0, by omega, by omega, ?_⟩
      simp only [↓yG, Nat.reduceEqDiff, ↓reduceIte, Int.natCast_add, Int.cast_ofNat_Int, Int.natCast_zero, true_and, and_true, Option.some.injEq, Value.int.injEq]
      exact ⟨Same.refl hS3.wf, fun x hx => by simp at hx⟩
    rintro k fr H5 ⟨j, rfl, hj, f2, f5, f64, f65, f66, hS45, hall⟩ J hJ
    have hS5 := hS3.trans hS45
    have hw5 := hS5.wf
    have hlim5 := hw5.1
    by_cases hj1 : j < e.L.length
    · obtain ⟨e1, _, r1⟩ := (hT.later hw hS5).row hj1
      have hsm := hs5 _ (bang_mem hj1)
      have hmem : e.L[j]!.2 ∈ e.rows := List.mem_map.2 ⟨_, bang_mem hj1, rfl⟩
      have hnx : rowOk e.L[j]!.2 → ∀ x ∈ e.L.take (j + 1), rowOk x.2 := fun h x hx => by
        rw [List.take_succ_eq_append_getElem hj1, ← getElem!_pos e.L j hj1] at hx
        rcases List.mem_append.1 hx with hx | hx
        · exact hall x hx
        · rw [List.mem_singleton.1 hx]; exact h
      have hrow : ∀ x, rowV x = .agg [x].toArray := fun _ => rfl
      generalize e.L[j]!.1 = w0 at *
      generalize e.L[j]!.2 = l0 at *
      have hf := r1.flat
      have hst := gst_add hw5 (n := 1) (z := [.slice none 0 0]) (u := 0) (vs := #[w0]) rfl rfl (by simp [hf])
      repeat' (first | (exfalso; omega) | refine zn ?_ | refine zK rfl ?_ | refine zP rfl ?_ | ((first | refine zm ?_ | skip); intro _; intros; simp (disch := first | exact zd | fail) only [↓yS, yT, gresults, gone, ↓reduceIte, Nat.reduceEqDiff, Nat.reduceAdd, Nat.reduceMul, reduceCtorEq, Int.reduceToNat, g17, f2, f5, f64, f65, f66, hsl.ia, e1, hrow, hst]; first | (rename_i K k; (first | refine yC (k _ _ ?_) | refine zg (k _ ?_)); clear k K) | (rename_i A B C D a b c d; (first | refine zx (a ?_) | refine zy (b ?_) | refine zz (fun hc => c ?_) (fun hc => d ?_) | refine zv (b ?_) | refine zw (a ?_)) <;> clear a b c d A B C D <;> try simp only [yL] at hc)) | refine zA ?_ | refine zB ?_ | refine zF ?_)
      have hS56 : Same H5 ((H5.add (some (.cells [.slice none 0 0] 0 true))).put H5.len (.cells [w0] 0 true)) := (Same.refl hw5).new _ _
      generalize (H5.add (some (.cells [.slice none 0 0] 0 true))).put H5.len (.cells [w0] 0 true) = H6 at *
      refine Gw_s fun K' hK' => G1_call (by simp only [gtarget, ↓GArg.ev, ↓evs, ↓Tr.get_set, Nat.reduceEqDiff, if_true, if_false, ↓reduceIte, Option.map_some, f2, f5, f64, f65, f66]; rfl) (rowE_ok (hS5.trans hS56).wf (r1.later hw5 hS56) hsm) fun r7 H7 hq => hK' _ _ ?_
      obtain ⟨⟨n, rfl, hn⟩, hS7⟩ := hq
      have hS57 := hS56.trans hS7
      repeat' (first | (exfalso; omega) | refine zn ?_ | refine zK rfl ?_ | refine zP rfl ?_ | ((first | refine zm ?_ | skip); intro _; intros; simp (disch := first | exact zd | fail) only [↓yS, yT, gresults, gone, ↓reduceIte, Nat.reduceEqDiff, Nat.reduceAdd, Nat.reduceMul, reduceCtorEq, Int.reduceToNat, g17, f2, f5, f64, f65, f66]; first | (rename_i K k; (first | refine yC (k _ _ ?_) | refine zg (k _ ?_)); clear k K) | (rename_i A B C D a b c d; (first | refine zx (a ?_) | refine zy (b ?_) | refine zz (fun hc => c ?_) (fun hc => d ?_) | refine zv (b ?_) | refine zw (a ?_)) <;> clear a b c d A B C D <;> try simp only [yL] at hc)) | refine zA ?_ | refine zB ?_ | refine zF ?_)
      case refine_1 => exact hbd hc (hS5.trans hS57) fun h => hc (hn.2 (h.2.2.2.2.2.1 _ hmem))
      refine hJ _ _ ⟨e.L.length - (j + 1), by omega, j + 1, rfl, by omega, ?_⟩
      simp only [↓yG, Nat.reduceEqDiff, ↓reduceIte, Int.natCast_add, Int.cast_ofNat_Int, Int.natCast_zero, true_and, and_true, Option.some.injEq, Value.int.injEq, f2, f5, f64, f65]
      exact ⟨hS45.trans hS57, hnx (hn.1 (by omega))⟩
    · obtain rfl : j = e.L.length := by omega
      rw [List.take_length] at hall
      have g7 : H5.rdn H2.len 0 7 = some (rgV r) := (hS45.rdn hl23).trans b7
      have h17 : H5.rdn H.len 0 7 = some (evV e) := (hS45.rdn hl3).trans b17
      repeat' (first | (exfalso; omega) | refine zn ?_ | refine zK rfl ?_ | refine zP rfl ?_ | ((first | refine zm ?_ | skip); intro _; intros; simp (disch := first | exact zd | fail) only [↓yS, yT, gresults, gone, ↓reduceIte, Nat.reduceEqDiff, Nat.reduceAdd, Nat.reduceMul, reduceCtorEq, Int.reduceToNat, g17, f2, f5, f64, f65, f66]; first | (rename_i K k; (first | refine yC (k _ _ ?_) | refine zg (k _ ?_)); clear k K) | (rename_i A B C D a b c d; (first | refine zx (a ?_) | refine zy (b ?_) | refine zz (fun hc => c ?_) (fun hc => d ?_) | refine zv (b ?_) | refine zw (a ?_)) <;> clear a b c d A B C D <;> try simp only [yL] at hc)) | refine zA ?_ | refine zB ?_ | refine zF ?_)
      repeat' (first | refine zn ?_ | refine zK rfl ?_ | refine zP rfl ?_ | ((first | refine zm ?_ | skip); intro _; intros; simp (disch := first | exact zd | fail) only [↓yS, yT, gresults, gone, ↓reduceIte, Nat.reduceEqDiff, Nat.reduceAdd, Nat.reduceMul, reduceCtorEq, Int.reduceToNat, g17, f2, f5, g7, h17]; first | (rename_i K k; (first | refine yC (k _ _ ?_) | refine zg (k _ ?_)); clear k K) | (rename_i A B C D a b c d; (first | refine zx (a ?_) | refine zy (b ?_) | refine zz (fun hc => c ?_) (fun hc => d ?_) | refine zv (b ?_) | refine zw (a ?_)) <;> clear a b c d A B C D <;> try simp only [yL] at hc)) | refine zA ?_ | refine zB ?_ | refine zF ?_)
      refine Gw_s fun K' hK' => G1_callM (by simp only [gtarget, ↓GArg.ev, ↓evs, ↓Tr.get_set, Nat.reduceEqDiff, if_true, if_false, ↓reduceIte, Option.map_some]; rfl) (lens_ok (wf_up hw5) (hT.later hw hS5).up hs4 hs5) fun r6 H6 hO => hK' _ _ ?_
      have hO6 := OS.down hw5 hO
      generalize H6.down H5.lim = H7 at *
      clear hO
      have hS7 := hS5.trans hO6.same
      repeat' (first | refine zn ?_ | refine zK rfl ?_ | refine zP rfl ?_ | ((first | refine zm ?_ | skip); intro _; intros; simp (disch := first | exact zd | fail) only [↓yS, yT, gresults, gone, ↓reduceIte, Nat.reduceEqDiff, Nat.reduceAdd, Nat.reduceMul, reduceCtorEq, Int.reduceToNat, g17]; first | (rename_i K k; (first | refine yC (k _ _ ?_) | refine zg (k _ ?_)); clear k K) | (rename_i A B C D a b c d; (first | refine zx (a ?_) | refine zy (b ?_) | refine zz (fun hc => c ?_) (fun hc => d ?_) | refine zv (b ?_) | refine zw (a ?_)) <;> clear a b c d A B C D <;> try simp only [yL] at hc)) | refine zA ?_ | refine zB ?_ | refine zF ?_)
      have hrd7 : GRd H7.up 1 r6 (e.rows.map lenF).length (ints .i64 (e.rows.map lenF)) := by
        rw [List.length_map, hrl]; exact hO6.rd
      refine Gw_s fun K' hK' => G1_callM (by simp only [gtarget, ↓GArg.ev, ↓evs, ↓Tr.get_set, Nat.reduceEqDiff, if_true, if_false, ↓reduceIte, Option.map_some]; rfl) (place_ok' (wf_up hS7.wf) hfs hrd7 (by rw [List.length_map, hrl]; omega)) fun r8 H8 hq => hK' _ _ ?_
      obtain ⟨s, x, rfl, hx, hS8⟩ := hq
      have hS9 := hS7.trans (Same.down hS7.wf hS8)
      obtain ⟨n, rfl, hn⟩ := hx
      repeat' (first | refine zn ?_ | refine zK rfl ?_ | refine zP rfl ?_ | ((first | refine zm ?_ | skip); intro _; intros; simp (disch := first | exact zd | fail) only [↓yS, yT, gresults, gone, ↓reduceIte, Nat.reduceEqDiff, Nat.reduceAdd, Nat.reduceMul, reduceCtorEq, Int.reduceToNat, g17]; first | (rename_i K k; (first | refine yC (k _ _ ?_) | refine zg (k _ ?_)); clear k K) | (rename_i A B C D a b c d; (first | refine zx (a ?_) | refine zy (b ?_) | refine zz (fun hc => c ?_) (fun hc => d ?_) | refine zv (b ?_) | refine zw (a ?_)) <;> clear a b c d A B C D <;> try simp only [yL] at hc)) | refine zA ?_ | refine zB ?_ | refine zF ?_)
      refine hPost _ _ ⟨⟨n, rfl, hn.trans ⟨fun h => ⟨hid, hsp, hk, hsk, by rw [hrl]; exact hL, fun y hy => ?_, r, hfr, h⟩, fun h => ?_⟩⟩, hS9⟩
      · obtain ⟨z, hz, rfl⟩ := List.mem_map.1 hy
        exact hall z hz
      · obtain ⟨r', h1, h2⟩ := h.2.2.2.2.2.2
        rw [hfr] at h1
        cases h1
        exact h2
/-! ### headers -/
theorem rate_ok {r : Int} (hr : 0 ≤ r ∧ r ≤ 255) {b : Bool} (H : GHeap) : gev G 28 [.int .u8 r, .bool b] H = some (.int .i64 (if 0 < tk r ∧ (b = true → cdr r = true) then 0 else 13), H) := by
  refine gev_GWP (f := 28) rfl rfl rfl (fun Post hPost => ?_) H
  simp only [frameOf, Nat.reduceAdd]
  repeat' (first | refine zn ?_ | refine zK rfl ?_ | refine zP rfl ?_ | ((first | refine zm ?_ | skip); intro _; intros; simp (disch := first | exact zd | fail) only [↓yS, yT, gresults, gone, ↓reduceIte, Nat.reduceEqDiff, Nat.reduceAdd, Nat.reduceMul, reduceCtorEq, Int.reduceToNat, g28]; first | (rename_i K k; (first | refine yC (k _ _ ?_) | refine zg (k _ ?_)); clear k K) | (rename_i A B C D a b c d; (first | refine zx (a ?_) | refine zy (b ?_) | refine zz (fun hc => c ?_) (fun hc => d ?_) | refine zv (b ?_) | refine zw (a ?_)) <;> clear a b c d A B C D <;> try simp only [yL] at hc)) | refine zA ?_ | refine zB ?_ | refine zF ?_)
  refine Gw_s fun K' hK' => G1_call (by simp only [gtarget, ↓GArg.ev, ↓evs, ↓Tr.get_set, Nat.reduceEqDiff, if_true, if_false, ↓reduceIte, Option.map_some]; rfl) (one_of (tvalid_ok hr _)) fun r1 H1 hq => hK' _ _ ?_
  obtain ⟨rfl, rfl⟩ := hq
  by_cases h0 : 0 < tk r
  case neg =>
    have d0 : decide (0 < tk r) = false := decide_eq_false h0
    rw [if_neg fun h => h0 h.1] at hPost
    repeat' (first | refine zn ?_ | refine zK rfl ?_ | refine zP rfl ?_ | ((first | refine zm ?_ | skip); intro _; intros; simp (disch := first | exact zd | fail) only [↓yS, yT, gresults, gone, ↓reduceIte, Nat.reduceEqDiff, Nat.reduceAdd, Nat.reduceMul, reduceCtorEq, Int.reduceToNat, g28, d0, Bool.not_false]; first | (rename_i K k; (first | refine yC (k _ _ ?_) | refine zg (k _ ?_)); clear k K) | (rename_i A B C D a b c d; (first | refine zx (a ?_) | refine zy (b ?_) | refine zz (fun hc => c ?_) (fun hc => d ?_) | refine zv (b ?_) | refine zw (a ?_)) <;> clear a b c d A B C D <;> try simp only [yL] at hc)) | refine zA ?_ | refine zB ?_ | refine zF ?_)
    exact hPost _
  have d0 : decide (0 < tk r) = true := decide_eq_true h0
  cases b with
  | false =>
    rw [if_pos ⟨h0, fun h => by cases h⟩] at hPost
    repeat' (first | refine zn ?_ | refine zK rfl ?_ | refine zP rfl ?_ | ((first | refine zm ?_ | skip); intro _; intros; simp (disch := first | exact zd | fail) only [↓yS, yT, gresults, gone, ↓reduceIte, Nat.reduceEqDiff, Nat.reduceAdd, Nat.reduceMul, reduceCtorEq, Int.reduceToNat, g28, d0, Bool.not_true]; first | (rename_i K k; (first | refine yC (k _ _ ?_) | refine zg (k _ ?_)); clear k K) | (rename_i A B C D a b c d; (first | refine zx (a ?_) | refine zy (b ?_) | refine zz (fun hc => c ?_) (fun hc => d ?_) | refine zv (b ?_) | refine zw (a ?_)) <;> clear a b c d A B C D <;> try simp only [yL] at hc)) | refine zA ?_ | refine zB ?_ | refine zF ?_)
    exact hPost _
  | true =>
    repeat' (first | refine zn ?_ | refine zK rfl ?_ | refine zP rfl ?_ | ((first | refine zm ?_ | skip); intro _; intros; simp (disch := first | exact zd | fail) only [↓yS, yT, gresults, gone, ↓reduceIte, Nat.reduceEqDiff, Nat.reduceAdd, Nat.reduceMul, reduceCtorEq, Int.reduceToNat, g28, d0, Bool.not_true]; first | (rename_i K k; (first | refine yC (k _ _ ?_) | refine zg (k _ ?_)); clear k K) | (rename_i A B C D a b c d; (first | refine zx (a ?_) | refine zy (b ?_) | refine zz (fun hc => c ?_) (fun hc => d ?_) | refine zv (b ?_) | refine zw (a ?_)) <;> clear a b c d A B C D <;> try simp only [yL] at hc)) | refine zA ?_ | refine zB ?_ | refine zF ?_)
    intro K' hK'; refine G1_call (by simp only [gtarget, ↓GArg.ev, ↓evs, ↓Tr.get_set, Nat.reduceEqDiff, if_true, if_false, ↓reduceIte, Option.map_some]; rfl) (one_of (canDrop_ok hr _)) fun r1 H1 hq => hK' _ _ ?_
    obtain ⟨rfl, rfl⟩ := hq
    cases hc : cdr r with
    | true =>
      rw [if_pos ⟨h0, fun _ => hc⟩] at hPost
      repeat' (first | refine zn ?_ | refine zK rfl ?_ | refine zP rfl ?_ | ((first | refine zm ?_ | skip); intro _; intros; simp (disch := first | exact zd | fail) only [↓yS, yT, gresults, gone, ↓reduceIte, Nat.reduceEqDiff, Nat.reduceAdd, Nat.reduceMul, reduceCtorEq, Int.reduceToNat, g28, Bool.not_true]; first | (rename_i K k; (first | refine yC (k _ _ ?_) | refine zg (k _ ?_)); clear k K) | (rename_i A B C D a b c d; (first | refine zx (a ?_) | refine zy (b ?_) | refine zz (fun hc => c ?_) (fun hc => d ?_) | refine zv (b ?_) | refine zw (a ?_)) <;> clear a b c d A B C D <;> try simp only [yL] at hc)) | refine zA ?_ | refine zB ?_ | refine zF ?_)
      exact hPost _
    | false =>
      rw [if_neg fun h => by have := h.2 rfl; rw [hc] at this; cases this] at hPost
      repeat' (first | refine zn ?_ | refine zK rfl ?_ | refine zP rfl ?_ | ((first | refine zm ?_ | skip); intro _; intros; simp (disch := first | exact zd | fail) only [↓yS, yT, gresults, gone, ↓reduceIte, Nat.reduceEqDiff, Nat.reduceAdd, Nat.reduceMul, reduceCtorEq, Int.reduceToNat, g28, Bool.not_false]; first | (rename_i K k; (first | refine yC (k _ _ ?_) | refine zg (k _ ?_)); clear k K) | (rename_i A B C D a b c d; (first | refine zx (a ?_) | refine zy (b ?_) | refine zz (fun hc => c ?_) (fun hc => d ?_) | refine zv (b ?_) | refine zw (a ?_)) <;> clear a b c d A B C D <;> try simp only [yL] at hc)) | refine zA ?_ | refine zB ?_ | refine zF ?_)
      exact hPost _
end Go.Gh
