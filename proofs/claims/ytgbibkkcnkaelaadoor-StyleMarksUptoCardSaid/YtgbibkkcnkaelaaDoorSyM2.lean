/-
  Plain: the characters of rows that are replaced and marked.
-/
import Derived.Test.YtgbibkkcnkaelaaDoorSyM
import Derived.Test.YtgbibkkcnkaelaaDoorSyP5
import Derived.Test.YtgbibkkcnkaelaaDoorSyA3
namespace Go.Gh
set_option linter.unusedSimpArgs false
set_option linter.unusedVariables false
open Go.RowKit
set_option maxRecDepth 4000

theorem runCh_inS (s : Sy) (x : SR) : runCh (inS s x) = (runCh x).map fun p => (p.1, s) := by
  simp [runCh, inS, Function.comp_def]
theorem charsR_inS (s : Sy) (l : List SR) : charsR (l.map (inS s)) = (charsR l).map fun p => (p.1, s) := by
  induction l with
  | nil => rfl
  | cons x l ih =>
    simp only [charsR, List.map_cons, List.flatMap_cons, List.map_append] at ih ⊢
    rw [ih, runCh_inS]
theorem okV_inS {s : Sy} {l : List SR} (h : OkV l) : OkV (l.map (inS s)) := fun x hx => by
  obtain ⟨y, hy, rfl⟩ := List.mem_map.1 hx
  exact h y hy
section
variable {l : List SR} (h : OkV l) {I J : Nat} (hIJ : I ≤ J) (hJ : J ≤ (charsR l).length)
include h hIJ hJ
theorem lims : limI (lenF l) I = I ∧ limJ (lenF l) I J = J := by
  have := lenF_ok h
  unfold limJ limI
  omega
theorem mark_chars (s : Sy) : charsR (markF l I J s) = (charsR l).take I ++ (((charsR l).take J).drop I).map (fun p => (p.1, s)) ++ (charsR l).drop J ∧ OkV (markF l I J s) := by
  have hl := lenF_ok h
  obtain ⟨e1, e2⟩ := lims h hIJ hJ
  obtain ⟨a1, a2⟩ := sliceF_chars h (i := 0) (j := I) (I := 0) (J := I) (by unfold limI; omega) (by unfold limJ limI; omega)
  obtain ⟨b1, b2⟩ := sliceF_chars h (i := I) (j := J) (I := I) (J := J) e1 e2
  obtain ⟨c1, c2⟩ := sliceF_chars h (i := J) (j := lenF l) (I := J) (J := (charsR l).length) (by unfold limI; omega) (by unfold limJ limI; omega)
  obtain ⟨d1, d2⟩ := normF_chars (okV_app a2 (okV_inS (s := s) b2))
  obtain ⟨f1, f2⟩ := normF_chars (okV_app d2 c2)
  rw [markF, if_neg (by omega), e1, e2]
  refine ⟨?_, f2⟩
  rw [f1, charsR_app, d1, charsR_app, charsR_inS, a1, b1, c1, List.take_length, List.drop_zero]
theorem mark_at (s : Sy) {k : Nat} (hk : k < (charsR l).length) : (charsR (markF l I J s))[k]? = some (if I ≤ k ∧ k < J then ((charsR l)[k]!.1, s) else (charsR l)[k]!) := by
  rw [(mark_chars h hIJ hJ s).1]
  have l1 : ((charsR l).take I).length = I := by rw [List.length_take]; omega
  have l2 : ((((charsR l).take J).drop I).map fun p => (p.1, s)).length = J - I := by simp; omega
  have hb := gget (l := charsR l) hk
  by_cases h1 : k < I
  · rw [List.append_assoc, List.getElem?_append_left (by omega), List.getElem?_take_of_lt h1, hb, if_neg (by omega)]
  · by_cases h2 : k < J
    · rw [List.getElem?_append_left (by rw [List.length_append]; omega), List.getElem?_append_right (by omega), l1, List.getElem?_map, List.getElem?_drop, show I + (k - I) = k from by omega, List.getElem?_take_of_lt h2, hb, if_pos ⟨by omega, h2⟩]
      rfl
    · rw [List.getElem?_append_right (by rw [List.length_append]; omega), List.length_append, l1, l2, List.getElem?_drop, show J + (k - (I + (J - I))) = k from by omega, hb, if_neg (by omega)]
theorem rep_chars {t : List UInt8} (ht : vldB (strB t) = true) : ∃ s, charsR (replaceF l I J t) = (charsR l).take I ++ (rns (strB t)).map (fun c => (c, s)) ++ (charsR l).drop J ∧ OkV (replaceF l I J t) := by
  have hl := lenF_ok h
  obtain ⟨e1, e2⟩ := lims h hIJ hJ
  obtain ⟨a1, a2⟩ := sliceF_chars h (i := 0) (j := I) (I := 0) (J := I) (by unfold limI; omega) (by unfold limJ limI; omega)
  obtain ⟨c1, c2⟩ := sliceF_chars h (i := J) (j := lenF l) (I := J) (J := (charsR l).length) (by unfold limI; omega) (by unfold limJ limI; omega)
  have hb : OkV [(⟨t, styF l I J, []⟩ : SR)] := fun x hx => by rw [List.mem_singleton.1 hx]; exact ht
  obtain ⟨b1, b2⟩ := normF_chars hb
  obtain ⟨d1, d2⟩ := normF_chars (okV_app a2 b2)
  obtain ⟨f1, f2⟩ := normF_chars (okV_app d2 c2)
  rw [replaceF, if_neg (by rw [ht]; simp; omega), e1, e2]
  refine ⟨styF l I J, ?_, f2⟩
  rw [f1, charsR_app, d1, charsR_app, b1, charsR_one, a1, c1, List.take_length, List.drop_zero]
  rfl
end
theorem ab_ok : vldB (strB [97, 98]) = true ∧ (rns (strB [97, 98])).length = 2 := by
  constructor <;> decide +kernel
theorem rep_at {l : List SR} (h : OkV l) {I J : Nat} (hIJ : I ≤ J) (hJ : J ≤ (charsR l).length) : (charsR (replaceF l I J [97, 98])).length = (charsR l).length - (J - I) + 2 ∧ OkV (replaceF l I J [97, 98]) ∧ ∀ k, k < (charsR l).length → (k < I → (charsR (replaceF l I J [97, 98]))[k]? = some (charsR l)[k]!) ∧ (J ≤ k → (charsR (replaceF l I J [97, 98]))[k - (J - I) + 2]? = some (charsR l)[k]!) := by
  obtain ⟨s, e, hok⟩ := rep_chars h hIJ hJ ab_ok.1
  have l1 : ((charsR l).take I).length = I := by rw [List.length_take]; omega
  have l2 : ((rns (strB [97, 98])).map fun c => (c, s)).length = 2 := by rw [List.length_map]; exact ab_ok.2
  refine ⟨?_, hok, fun k hk => ⟨fun h1 => ?_, fun h1 => ?_⟩⟩
  · rw [e, List.length_append, List.length_append, l1, l2, List.length_drop]; omega
  · rw [e, List.append_assoc, List.getElem?_append_left (by omega), List.getElem?_take_of_lt h1, gget hk]
  · rw [e, List.getElem?_append_right (by rw [List.length_append]; omega), List.length_append, l1, l2, List.getElem?_drop, show J + (k - (J - I) + 2 - (I + 2)) = k from by omega, gget hk]
theorem at_var {X : List SR} (h1 : X.length ≤ 16777216) (h2 : tot X ≤ 4398046511104) {i : Int} (hi : -9223372036854775808 ≤ i ∧ i ≤ 9223372036854775807) : ∃ (c : Int) (s : Sy) (b : Bool), (∀ {H : GHeap} {w : Value}, H.wf → RR H w X → ∃ r H', gev G 11 [rowV w, .int .i64 i] H = some (r, H') ∧ (r = .tuple #[.int .i32 c, syV s, .bool b] ∧ Same H H')) ∧ ∀ p, atF X i = some p → c = (p.1 : Nat) ∧ s = p.2 ∧ b = true := by
  refine ⟨atC (atF X i), atS (atF X i), (atF X i).isSome, fun hw hv => ?_, fun p hp => ?_⟩
  · obtain ⟨r, H', e, k1, k2⟩ := at_ok hw hv h1 h2 hi
    exact ⟨r, H', e, by rw [k1, atV_eq], k2⟩
  · rw [hp]; exact ⟨rfl, rfl, rfl⟩
end Go.Gh
