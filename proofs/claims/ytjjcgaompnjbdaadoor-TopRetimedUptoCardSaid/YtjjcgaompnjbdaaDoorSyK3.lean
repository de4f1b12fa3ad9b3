/-
  style, walked: slices.Clone of runs and of rows; Clone.
-/
import Derived.Test.YtjjcgaompnjbdaaDoorSyK2
namespace Go.Gh
set_option linter.unusedSimpArgs false
set_option linter.unusedVariables false
set_option maxHeartbeats 4000000
open Go.RowKit
set_option maxRecDepth 4000

theorem nil_of {H : GHeap} {s n gc : Nat} {v : Value} {xs : List Value} (h : GArg1 H s v n xs) (e : v = .slice none n gc) (hn : n ≠ 0) : False := by
  obtain ⟨_, a, gc, e2, h3⟩ := h.rd
  rw [e] at e2; cases e2
  obtain ⟨i, o, cs, e, _⟩ := h3 (by omega); cases e
theorem cloneR_ok {H : GHeap} (hw : H.wf) {v : Value} {l : List SR} (hl : RR H v l) (hll : l.length * 40 ≤ 140737488351232) :
    ∃ r H', gev G 57 [v] H = some (r, H') ∧ OR H H' r l := by
  refine gev_GW (f := 57) rfl fun Post hPost => ?_
  have hlim := hw.1
  simp only [frameOf, Nat.reduceAdd]
  obtain ⟨a, gc, e, hgc, hnil, hu⟩ := hl.sl
  cases a with
  | none =>
    have hl0 : l = [] := List.eq_nil_of_length_eq_zero (Classical.byContradiction fun hn => nil_of hl e hn)
    subst hl0
    have hg0 : gc = 0 := by
      rcases hgc with h | ⟨_, h⟩
      · exact h
      · exact absurd rfl h
    subst hg0
    subst e
    have heq : gbin .eql (some .sl) (.slice none 0 0) (.slice none 0 0) = some (.bool true) := by simp [gbin, geq, geqIn]
    repeat' (first | refine zn ?_ | refine zK rfl ?_ | refine zP rfl ?_ | ((first | refine zm ?_ | skip); intro _; intros; simp (disch := first | exact zd | fail) only [↓yS, yT, gresults, gone, ↓reduceIte, Nat.reduceEqDiff, Nat.reduceAdd, Nat.reduceMul, reduceCtorEq, Int.reduceToNat, g57, heq]; first | (rename_i K k; (first | refine yC (k _ _ ?_) | refine zg (k _ ?_)); clear k K) | (rename_i A B C D a b c d; (first | refine zx (a ?_) | refine zy (b ?_) | refine zz (fun hc => c ?_) (fun hc => d ?_) | refine zv (b ?_) | refine zw (a ?_)) <;> clear a b c d A B C D <;> try simp only [yL] at hc)) | refine zA ?_ | refine zB ?_ | refine zF ?_)
    exact hPost _ _ (OS.nil (Same.refl hw))
  | some p =>
    have heq : gbin .eql (some .sl) v (.slice none 0 0) = some (.bool false) := by rw [e]; simp [gbin, geq, geqIn]
    repeat' (first | refine zn ?_ | refine zK rfl ?_ | refine zP rfl ?_ | ((first | refine zm ?_ | skip); intro _; intros; simp (disch := first | exact zd | fail) only [↓yS, yT, gresults, gone, ↓reduceIte, Nat.reduceEqDiff, Nat.reduceAdd, Nat.reduceMul, reduceCtorEq, Int.reduceToNat, g57, heq]; first | (rename_i K k; (first | refine yC (k _ _ ?_) | refine zg (k _ ?_)); clear k K) | (rename_i A B C D a b c d; (first | refine zx (a ?_) | refine zy (b ?_) | refine zz (fun hc => c ?_) (fun hc => d ?_) | refine zv (b ?_) | refine zw (a ?_)) <;> clear a b c d A B C D <;> try simp only [yL] at hc)) | refine zA ?_ | refine zB ?_ | refine zF ?_)
    have hO0 : OS 5 5 H (H.add (some (.cells [] 5 true))) (.slice (some ⟨H.len, 0, none⟩) 0 1) 0 [] := OS.made' (Same.refl hw) rfl
    refine Gw_s fun K' hK' => ?_
    simp (disch := first | exact zd | fail) only [↓yS, yT, ↓reduceIte, Nat.reduceEqDiff, Nat.reduceAdd, Nat.reduceMul, reduceCtorEq, Int.reduceToNat]
    obtain ⟨v', H', e, hO, hB⟩ := hO0.appN (by decide) (by decide) (hl.later hw hO0.same) (b := 40) (by omega) (by omega)
    refine G1_eq e (hK' _ _ ?_)
    clear hK' K' e
    repeat' (first | refine zn ?_ | refine zK rfl ?_ | refine zP rfl ?_ | ((first | refine zm ?_ | skip); intro _; intros; simp (disch := first | exact zd | fail) only [↓yS, yT, gresults, gone, ↓reduceIte, Nat.reduceEqDiff, Nat.reduceAdd, Nat.reduceMul, reduceCtorEq, Int.reduceToNat, g57]; first | (rename_i K k; (first | refine yC (k _ _ ?_) | refine zg (k _ ?_)); clear k K) | (rename_i A B C D a b c d; (first | refine zx (a ?_) | refine zy (b ?_) | refine zz (fun hc => c ?_) (fun hc => d ?_) | refine zv (b ?_) | refine zw (a ?_)) <;> clear a b c d A B C D <;> try simp only [yL] at hc)) | refine zA ?_ | refine zB ?_ | refine zF ?_)
    rw [Nat.zero_add, List.nil_append] at hO
    exact hPost _ _ hO
theorem cloneT_ok {H : GHeap} (hw : H.wf) {v : Value} {l : List VR'} (hl : TR H v l) (hll : l.length * 24 ≤ 140737488351232) :
    ∃ r H', gev G 56 [v] H = some (r, H') ∧ OS 1 1 H H' r l.length (l.map (·.1)) := by
  refine gev_GW (f := 56) rfl fun Post hPost => ?_
  have hlim := hw.1
  simp only [frameOf, Nat.reduceAdd]
  obtain ⟨a, gc, e, hgc, hnil, hu⟩ := hl.rd.sl
  cases a with
  | none =>
    have hl0 : l = [] := List.eq_nil_of_length_eq_zero (Classical.byContradiction fun hn => nil_of hl.rd e hn)
    subst hl0
    have hg0 : gc = 0 := by
      rcases hgc with h | ⟨_, h⟩
      · exact h
      · exact absurd rfl h
    subst hg0
    subst e
    have heq : gbin .eql (some .sl) (.slice none 0 0) (.slice none 0 0) = some (.bool true) := by simp [gbin, geq, geqIn]
    repeat' (first | refine zn ?_ | refine zK rfl ?_ | refine zP rfl ?_ | ((first | refine zm ?_ | skip); intro _; intros; simp (disch := first | exact zd | fail) only [↓yS, yT, gresults, gone, ↓reduceIte, Nat.reduceEqDiff, Nat.reduceAdd, Nat.reduceMul, reduceCtorEq, Int.reduceToNat, g56, heq]; first | (rename_i K k; (first | refine yC (k _ _ ?_) | refine zg (k _ ?_)); clear k K) | (rename_i A B C D a b c d; (first | refine zx (a ?_) | refine zy (b ?_) | refine zz (fun hc => c ?_) (fun hc => d ?_) | refine zv (b ?_) | refine zw (a ?_)) <;> clear a b c d A B C D <;> try simp only [yL] at hc)) | refine zA ?_ | refine zB ?_ | refine zF ?_)
    exact hPost _ _ (OS.nil (Same.refl hw))
  | some p =>
    have heq : gbin .eql (some .sl) v (.slice none 0 0) = some (.bool false) := by rw [e]; simp [gbin, geq, geqIn]
    repeat' (first | refine zn ?_ | refine zK rfl ?_ | refine zP rfl ?_ | ((first | refine zm ?_ | skip); intro _; intros; simp (disch := first | exact zd | fail) only [↓yS, yT, gresults, gone, ↓reduceIte, Nat.reduceEqDiff, Nat.reduceAdd, Nat.reduceMul, reduceCtorEq, Int.reduceToNat, g56, heq]; first | (rename_i K k; (first | refine yC (k _ _ ?_) | refine zg (k _ ?_)); clear k K) | (rename_i A B C D a b c d; (first | refine zx (a ?_) | refine zy (b ?_) | refine zz (fun hc => c ?_) (fun hc => d ?_) | refine zv (b ?_) | refine zw (a ?_)) <;> clear a b c d A B C D <;> try simp only [yL] at hc)) | refine zA ?_ | refine zB ?_ | refine zF ?_)
    have hO0 : OS 1 1 H (H.add (some (.cells [] 1 true))) (.slice (some ⟨H.len, 0, none⟩) 0 1) 0 [] := OS.made' (Same.refl hw) rfl
    refine Gw_s fun K' hK' => ?_
    simp (disch := first | exact zd | fail) only [↓yS, yT, ↓reduceIte, Nat.reduceEqDiff, Nat.reduceAdd, Nat.reduceMul, reduceCtorEq, Int.reduceToNat]
    obtain ⟨v', H', e, hO, hB⟩ := hO0.appN (by decide) (by decide) (hl.later hw hO0.same).rd (b := 24) (by omega) (by omega)
    refine G1_eq e (hK' _ _ ?_)
    clear hK' K' e
    repeat' (first | refine zn ?_ | refine zK rfl ?_ | refine zP rfl ?_ | ((first | refine zm ?_ | skip); intro _; intros; simp (disch := first | exact zd | fail) only [↓yS, yT, gresults, gone, ↓reduceIte, Nat.reduceEqDiff, Nat.reduceAdd, Nat.reduceMul, reduceCtorEq, Int.reduceToNat, g56]; first | (rename_i K k; (first | refine yC (k _ _ ?_) | refine zg (k _ ?_)); clear k K) | (rename_i A B C D a b c d; (first | refine zx (a ?_) | refine zy (b ?_) | refine zz (fun hc => c ?_) (fun hc => d ?_) | refine zv (b ?_) | refine zw (a ?_)) <;> clear a b c d A B C D <;> try simp only [yL] at hc)) | refine zA ?_ | refine zB ?_ | refine zF ?_)
    rw [Nat.zero_add, List.nil_append] at hO
    exact hPost _ _ hO
theorem clone_ok {H : GHeap} (hw : H.wf) {a : Value} {A : List VR'} (ha : TR H a A) (hla : A.length * 24 ≤ 140737488351232) (hA : ∀ x ∈ A, x.2.length * 40 ≤ 140737488351232) :
    ∃ r H', gev G 40 [a] H = some (r, H') ∧ ∃ L, TO H H' r L ∧ L.map (·.2) = A.map (·.2) := by
  refine gev_GW (f := 40) rfl fun Post hPost => ?_
  have hlim := hw.1
  simp only [frameOf, Nat.reduceAdd]
  repeat' (first | refine zn ?_ | refine zK rfl ?_ | refine zP rfl ?_ | ((first | refine zm ?_ | skip); intro _; intros; simp (disch := first | exact zd | fail) only [↓yS, yT, gresults, gone, ↓reduceIte, Nat.reduceEqDiff, Nat.reduceAdd, Nat.reduceMul, reduceCtorEq, Int.reduceToNat, g40]; first | (rename_i K k; (first | refine yC (k _ _ ?_) | refine zg (k _ ?_)); clear k K) | (rename_i A B C D a b c d; (first | refine zx (a ?_) | refine zy (b ?_) | refine zz (fun hc => c ?_) (fun hc => d ?_) | refine zv (b ?_) | refine zw (a ?_)) <;> clear a b c d A B C D <;> try simp only [yL] at hc)) | refine zA ?_ | refine zB ?_ | refine zF ?_)
  refine Gw_s fun K' hK' => G1_call (by simp only [gtarget, ↓GArg.ev, ↓evs, ↓Tr.get_set, Nat.reduceEqDiff, if_true, if_false, ↓reduceIte, Option.map_some]; rfl) (cloneT_ok hw ha hla) fun v H1 hO1 => hK' _ _ ?_
  have hsl : IsSl v A.length := hO1.rd.isSl
  repeat' (first | refine zn ?_ | refine zK rfl ?_ | refine zP rfl ?_ | ((first | refine zm ?_ | skip); intro _; intros; simp (disch := first | exact zd | fail) only [↓yS, yT, gresults, gone, ↓reduceIte, Nat.reduceEqDiff, Nat.reduceAdd, Nat.reduceMul, reduceCtorEq, Int.reduceToNat, g40, hsl.len]; first | (rename_i K k; (first | refine yC (k _ _ ?_) | refine zg (k _ ?_)); clear k K) | (rename_i A B C D a b c d; (first | refine zx (a ?_) | refine zy (b ?_) | refine zz (fun hc => c ?_) (fun hc => d ?_) | refine zv (b ?_) | refine zw (a ?_)) <;> clear a b c d A B C D <;> try simp only [yL] at hc)) | refine zA ?_ | refine zB ?_ | refine zF ?_)
  refine GW_loop (fun k fr H2 => ∃ (j : Nat) (L : List VR'), k = A.length - j ∧ j ≤ A.length ∧ fr.get 3 = some (v) ∧ fr.get 8 = some (.int .i64 A.length) ∧ fr.get 9 = some (.int .i64 j) ∧ L.length = A.length ∧ OS 1 1 H H2 v A.length (L.map (·.1)) ∧ L.map (·.2) = A.map (·.2) ∧ (∀ i, i < j → OR H H2 L[i]!.1 L[i]!.2) ∧ ∀ i, j ≤ i → L[i]! = A[i]!) ?_ A.length ?_
  case refine_2 =>
    refine ⟨0, A, by omega, by omega, ?_⟩
    simp only [↓yG, Nat.reduceEqDiff, ↓reduceIte, Int.natCast_add, Int.cast_ofNat_Int, Int.natCast_zero, true_and, and_true, Option.some.injEq, Value.int.injEq]
    refine ⟨hO1, fun i hi => absurd hi (by omega), ?_⟩
    simp
  rintro k fr H2 ⟨j, L, rfl, hj, f3, f8, f9, hLl, hO, hL, hown, hel⟩ J hJ
  have hS := hO.same
  by_cases hj1 : j < A.length
  · obtain ⟨i, gc, e, hg, hm⟩ : ∃ i gc, v = .slice (some ⟨i, 0, none⟩) A.length gc ∧ (gc = 0 ∨ gc = A.length + 1) ∧ H2.mine i = some (L.map (·.1), 1) := by
      rcases hO.own.at_ with ⟨_, e⟩ | h
      · omega
      · exact h
    have hblk : blk v = i := by rw [e]; rfl
    have hofs : ofs v = 0 := by rw [e]; rfl
    have hA0 : A[j]! ∈ A := by rw [getElem!_pos A j hj1]; exact List.getElem_mem _
    have hlen := hA _ hA0
    have r1 := (ha.rows _ hA0).later hw hS
    have hr : H2.rd i j = some A[j]!.1 := by
      rw [mine_rd hm]
      simp only [List.getElem?_map]
      rw [gget (by omega), hel j (Nat.le_refl _)]; rfl
    repeat' (first | (exfalso; omega) | refine zn ?_ | refine zK rfl ?_ | refine zP rfl ?_ | ((first | refine zm ?_ | skip); intro _; intros; simp (disch := first | exact zd | fail) only [↓yS, yT, gresults, gone, ↓reduceIte, Nat.reduceEqDiff, Nat.reduceAdd, Nat.reduceMul, reduceCtorEq, Int.reduceToNat, g40, f3, f8, f9, hsl.ia, hblk, hofs, Nat.zero_add, hr]; first | (rename_i K k; (first | refine yC (k _ _ ?_) | refine zg (k _ ?_)); clear k K) | (rename_i A B C D a b c d; (first | refine zx (a ?_) | refine zy (b ?_) | refine zz (fun hc => c ?_) (fun hc => d ?_) | refine zv (b ?_) | refine zw (a ?_)) <;> clear a b c d A B C D <;> try simp only [yL] at hc)) | refine zA ?_ | refine zB ?_ | refine zF ?_)
    refine Gw_s fun K' hK' => G1_call (by simp only [gtarget, ↓GArg.ev, ↓evs, ↓Tr.get_set, Nat.reduceEqDiff, if_true, if_false, ↓reduceIte, Option.map_some, f3, f8, f9]; rfl) (cloneR_ok hS.wf r1 hlen) fun w' H3 hO3 => hK' _ _ ?_
    have hOa := hO.later hO3.same
    have hm3 : H3.mine i = some (L.map (·.1), 1) := by rw [hO3.same.mine (mine_lt hS.wf hm)]; exact hm
    have hst : gst none H3 (.pointer (some ⟨i, j, none⟩)) w' = some (H3.put i (.cells ((L.map (·.1)).set j w') 1 true)) := by
      rw [gst_1, hm3, Option.bind_some, gset_ok (by simp; omega) hO3.flat]; rfl
    obtain ⟨hOb, hB⟩ := hOa.setc e (ys := (L.map (·.1)).set j w') (by simp)
    repeat' (first | (exfalso; omega) | refine zn ?_ | refine zK rfl ?_ | refine zP rfl ?_ | ((first | refine zm ?_ | skip); intro _; intros; simp (disch := first | exact zd | fail) only [↓yS, yT, gresults, gone, ↓reduceIte, Nat.reduceEqDiff, Nat.reduceAdd, Nat.reduceMul, reduceCtorEq, Int.reduceToNat, g40, f3, f8, f9, hsl.ia, hblk, hofs, Nat.zero_add, hst]; first | (rename_i K k; (first | refine yC (k _ _ ?_) | refine zg (k _ ?_)); clear k K) | (rename_i A B C D a b c d; (first | refine zx (a ?_) | refine zy (b ?_) | refine zz (fun hc => c ?_) (fun hc => d ?_) | refine zv (b ?_) | refine zw (a ?_)) <;> clear a b c d A B C D <;> try simp only [yL] at hc)) | refine zA ?_ | refine zB ?_ | refine zF ?_)
    have hkeep : ∀ {x : Value} {l : List SR}, OR H H3 x l → OR H (H3.put i (.cells ((L.map (·.1)).set j w') 1 true)) x l := fun h => h.but hB (fun k hk e2 => by
      have := (hOa.ids (a := i) (by rw [e]; simp [idOf])).1
      omega) fun a ha e2 => by
        refine h.unit_ne hOa (by decide) a ha ?_
        rw [e2, e]; simp [idOf]
    have hset : ∀ i', (L.set j (w', A[j]!.2))[i']! = if i' = j then (w', A[j]!.2) else L[i']! := fun i' => by
      by_cases h : i' = j
      · subst h
        rw [if_pos rfl, getElem!_pos _ _ (by simp; omega)]; simp
      · rw [if_neg h]
        by_cases h2 : i' < L.length
        · rw [getElem!_pos _ _ (by simpa using h2), getElem!_pos L i' h2, List.getElem_set_ne (by omega)]
        · rw [getElem!_neg _ _ (by simpa using h2), getElem!_neg L i' h2]
    refine hJ _ _ ⟨A.length - (j + 1), by omega, j + 1, L.set j (w', A[j]!.2), rfl, by omega, ?_⟩
    simp only [↓yG, Nat.reduceEqDiff, ↓reduceIte, Int.natCast_add, Int.cast_ofNat_Int, Int.natCast_zero, true_and, and_true, Option.some.injEq, Value.int.injEq, f3, f8]
    refine ⟨by simpa using hLl, ?_, ?_, fun i' hi => ?_, fun i' hi => ?_⟩
    · rw [List.map_set]; exact hOb
    · rw [List.map_set, hL]
      refine List.ext_getElem (by simp) fun n h1 h2 => ?_
      rw [List.getElem_set]
      split
      · rename_i h; subst h
        rw [getElem!_pos A j hj1]; simp
      · rfl
    · rw [hset]
      split
      · exact hkeep (hO3.weaken hS)
      · exact hkeep ((hown i' (by omega)).later hO3.same)
    · rw [hset, if_neg (by omega)]; exact hel i' (by omega)
  · obtain rfl : j = A.length := by omega
    repeat' (first | (exfalso; omega) | refine zn ?_ | refine zK rfl ?_ | refine zP rfl ?_ | ((first | refine zm ?_ | skip); intro _; intros; simp (disch := first | exact zd | fail) only [↓yS, yT, gresults, gone, ↓reduceIte, Nat.reduceEqDiff, Nat.reduceAdd, Nat.reduceMul, reduceCtorEq, Int.reduceToNat, g40, f3, f8, f9]; first | (rename_i K k; (first | refine yC (k _ _ ?_) | refine zg (k _ ?_)); clear k K) | (rename_i A B C D a b c d; (first | refine zx (a ?_) | refine zy (b ?_) | refine zz (fun hc => c ?_) (fun hc => d ?_) | refine zv (b ?_) | refine zw (a ?_)) <;> clear a b c d A B C D <;> try simp only [yL] at hc)) | refine zA ?_ | refine zB ?_ | refine zF ?_)
    refine hPost _ _ ⟨L, ⟨by rw [hLl]; exact hO, fun x hx => ?_⟩, hL⟩
    obtain ⟨i, hi, rfl⟩ := List.getElem_of_mem hx
    have := hown i (by omega)
    rwa [getElem!_pos L i hi] at this
end Go.Gh
