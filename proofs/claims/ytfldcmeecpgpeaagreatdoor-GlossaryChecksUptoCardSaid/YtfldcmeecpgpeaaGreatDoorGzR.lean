/-
 glossary's reference, walked: Clashes.
-/
import Derived.Test.YtfldcmeecpgpeaaGreatDoorGzC
import Derived.Test.YtfldcmeecpgpeaaGreatDoorGzT
namespace Go.Gh
set_option linter.unusedSimpArgs false
set_option linter.unusedVariables false
set_option maxHeartbeats 4000000
open Go.RowKit Go.Lib
set_option maxRecDepth 4000
def FB (g : List (List UInt8)) : List (List UInt8) := (g.filter fun t => vldB (strB t)).map fun t => foldB (strB t)
theorem FB_succ {g : List (List UInt8)} {k : Nat} (h : k < g.length) : FB (g.take (k + 1)) = if vldB (strB g[k]!) = true then FB (g.take k) ++ [foldB (strB g[k]!)] else FB (g.take k) := by
 unfold FB
 rw [List.take_succ_eq_append_getElem h, List.filter_append, List.map_append, getElem!_pos g k h]
 split <;> rename_i hc <;> simp [hc]
theorem FB_len (g : List (List UInt8)) : (FB g).length ≤ g.length := by
 unfold FB
 have := List.length_filter_le (fun t => vldB (strB t)) g
 simpa using this
theorem strs_app (a b : List (List UInt8)) : strs (a ++ b) = strs a ++ strs b := by simp [strs]
structure Tab (H0 H : GHeap) (tb : Nat) (T : List Value) (l : List Tm) (i d B : Nat) : Prop where
 same : Same H0 H
 mine : H.mine tb = some (T, 1)
 tb0 : H0.len ≤ tb
 tbB : tb < B
 BH : B ≤ H.len
 len : T.length = l.length
 rows : ∀ j, j < i → OwnG H T[j]! 1 1 (FB l[j]!.g).length (strs (FB l[j]!.g)) ∧ ∀ a ∈ idOf T[j]!, a < B ∧ a ≠ tb
 nils : ∀ j, i + d ≤ j → j < l.length → T[j]! = .slice none 0 0
structure Cur (H : GHeap) (B tb : Nat) (r : Value) (X : List (List UInt8)) : Prop where
 own : OwnG H r 1 1 X.length (strs X)
 young : r = .slice none 0 0 ∨ B ≤ blk r
theorem OwnG.ids {H : GHeap} {v : Value} {s u n : Nat} {xs : List Value} (h : OwnG H v s u n xs) {a : Nat} (ha : a ∈ idOf v) : H.mine a = some (xs, u) ∧ a = blk v := by
 rcases h.at_ with ⟨e, _⟩ | ⟨i, gc, e, _, hm⟩
 ·rw [e] at ha; simp [idOf] at ha
 ·rw [e] at ha ⊢
  simp only [idOf, List.mem_singleton] at ha
  subst ha; exact ⟨hm, rfl⟩
theorem OwnG.but {H H' : GHeap} (hw : H.wf) {v : Value} {s u n : Nat} {xs : List Value} (h : OwnG H v s u n xs) {S : Nat → Prop} (hb : But S H H') (hs : ∀ a ∈ idOf v, ¬ S a) : OwnG H' v s u n xs :=
 ⟨h.len, h.at_.imp id fun ⟨i, gc, e, hg, hm⟩ => ⟨i, gc, e, hg, by rw [hb.mine (mine_lt hw hm) (hs i (by rw [e]; simp [idOf]))]; exact hm⟩⟩
theorem OwnG.flat {H : GHeap} {v : Value} {s u n : Nat} {xs : List Value} (h : OwnG H v s u n xs) : flatV v = true := by
 rcases h.at_ with ⟨e, _⟩ | ⟨i, gc, e, _⟩ <;> rw [e] <;> exact flatV_sl
theorem bang_set_ne {T : List Value} {i j : Nat} {v : Value} (h : i ≠ j) : (T.set i v)[j]! = T[j]! := by
 rw [List.getElem!_eq_getElem?_getD, List.getElem!_eq_getElem?_getD, List.getElem?_set_ne h]
theorem bang_set_eq {T : List Value} {i : Nat} {v : Value} (h : i < T.length) : (T.set i v)[i]! = v := by
 rw [List.getElem!_eq_getElem?_getD, List.getElem?_set_self h]; rfl
theorem tab_app {H0 H : GHeap} {tb : Nat} {T : List Value} {l : List Tm} {i B : Nat} {X : List (List UInt8)} (hT : Tab H0 H tb T l i 1 B) (hi : i < l.length) (hc : Cur H B tb T[i]! X) (t : List UInt8) (hsz : (X.length + 1) * 16 ≤ 140737488355328) :
  ∃ v' H', gapp 1 16 1 (H.add (some (.cells (strs [t]) 1 true))) T[i]! (.slice (some ⟨H.len, 0, none⟩) 1 2) = some (v', H') ∧ H'.mine tb = some (T, 1) ∧ gset T i v' = some (T.set i v') ∧
   Tab H0 (H'.put tb (.cells (T.set i v') 1 true)) tb (T.set i v') l i 1 B ∧ Cur (H'.put tb (.cells (T.set i v') 1 true)) B tb (T.set i v')[i]! (X ++ [t]) := by
 have hw := hT.same.wf
 have hBH := hT.BH
 have hS : Same ⟨H.t, B, H.lim⟩ H := ⟨rfl, hBH, fun _ _ => rfl, hw⟩
 have hO : OS 1 1 ⟨H.t, B, H.lim⟩ H T[i]! X.length (strs X) := ⟨hS, hc.own, hc.young⟩
 obtain ⟨v', H', e, hO', hB'⟩ := hO.app1 (b := 16) (by decide) (by decide) (news := strs [t]) rfl hsz (by omega)
 have hw' := hO'.same.wf
 have hlim : H'.lim = H.lim := hO'.same.lim
 have hlen : B ≤ H'.len := hO'.same.len
 have hidB : ∀ a ∈ idOf T[i]!, B ≤ a := fun a ha => (hO.ids ha).1
 have hmt : H'.mine tb = some (T, 1) := by
  rw [hB'.mine (mine_lt hw hT.mine) (fun ha => by have := hidB tb ha; have := hT.tbB; omega)]; exact hT.mine
 have hilt : i < T.length := by rw [hT.len]; exact hi
 have hgs : gset T i v' = some (T.set i v') := gset_ok hilt hO'.flat
 have hBp : But (fun q => q = tb) H' (H'.put tb (.cells (T.set i v') 1 true)) := (But.refl (S := fun q => q = tb) hw').put rfl (mine_lt hw' hmt) _
 have hne' : ∀ a ∈ idOf v', ¬ a = tb := fun a ha e => by
  have h1 := (hO'.ids ha).1
  have h2 : B ≤ a := h1
  have := hT.tbB; omega
 refine ⟨v', H', e, hmt, hgs, ⟨?_, mine_put_same (mine_obj hmt).1, hT.tb0, hT.tbB, Nat.le_trans hlen hBp.len, by rw [List.length_set]; exact hT.len, fun j hj => ?_, fun j h1 h2 => ?_⟩, ?_⟩
 ·have hS1 := hB'.same hT.same fun k hk ha => by
   have := hidB k ha; have := hT.tb0; have := hT.tbB; omega
  exact hS1.put hT.tb0 (mine_lt hw' hmt) _
 ·rw [bang_set_ne (by omega)]
  obtain ⟨h1, h2⟩ := hT.rows j hj
  refine ⟨(h1.but hw hB' fun a ha hb => ?_).but hw' hBp fun a ha hb => (h2 a ha).2 hb, h2⟩
  have := hidB a hb; have := (h2 a ha).1; omega
 ·rw [bang_set_ne (by omega)]; exact hT.nils j h1 h2
 ·rw [bang_set_eq hilt]
  have h1 := (OwnG.but hw' hO'.own hBp hne')
  refine ⟨?_, ?_⟩
  ·rw [List.length_append, strs_app]; exact h1
  ·rcases hO'.young with h | h
   ·exact .inl h
   ·exact .inr h
theorem Tab.begin {H0 H : GHeap} {tb : Nat} {T : List Value} {l : List Tm} {i B : Nat} (hT : Tab H0 H tb T l i 0 B) (hi : i < l.length) : Tab H0 H tb T l i 1 H.len ∧ Cur H H.len tb T[i]! [] := by
 refine ⟨⟨hT.same, hT.mine, hT.tb0, mine_lt hT.same.wf hT.mine, Nat.le_refl _, hT.len, fun j hj => ?_, fun j h1 h2 => hT.nils j (by omega) h2⟩, ?_⟩
 ·obtain ⟨h1, h2⟩ := hT.rows j hj
  exact ⟨h1, fun a ha => ⟨mine_lt hT.same.wf (h1.ids ha).1, (h2 a ha).2⟩⟩
 ·have h1 := hT.nils i (by omega) hi
  rw [h1]
  exact ⟨⟨rfl, .inl ⟨rfl, rfl⟩⟩, .inl rfl⟩
theorem Tab.later {H0 H H' : GHeap} {tb : Nat} {T : List Value} {l : List Tm} {i d B : Nat} (hT : Tab H0 H tb T l i d B) (hs : Same H H') : Tab H0 H' tb T l i d B :=
 ⟨hT.same.trans hs, by rw [hs.mine (mine_lt hT.same.wf hT.mine)]; exact hT.mine, hT.tb0, hT.tbB, Nat.le_trans hT.BH hs.len, hT.len, fun j hj => ⟨(hT.rows j hj).1.but hT.same.wf (S := fun _ => False) (But.of hs) fun _ _ h => h, (hT.rows j hj).2⟩, hT.nils⟩
theorem Cur.later {H H' : GHeap} {B tb : Nat} {r : Value} {X : List (List UInt8)} (h : Cur H B tb r X) (hw : H.wf) (hs : Same H H') : Cur H' B tb r X :=
 ⟨h.own.but hw (S := fun _ => False) (But.of hs) fun _ _ h => h, h.young⟩
theorem Tab.finish {H0 H : GHeap} {tb : Nat} {T : List Value} {l : List Tm} {i B : Nat} (hT : Tab H0 H tb T l i 1 B) (hc : Cur H B tb T[i]! (FB l[i]!.g)) : Tab H0 H tb T l (i + 1) 0 H.len := by
 refine ⟨hT.same, hT.mine, hT.tb0, mine_lt hT.same.wf hT.mine, Nat.le_refl _, hT.len, fun j hj => ?_, fun j h1 h2 => hT.nils j (by omega) h2⟩
 by_cases hji : j = i
 ·subst hji
  refine ⟨hc.own, fun a ha => ?_⟩
  obtain ⟨h1, h2⟩ := hc.own.ids ha
  refine ⟨mine_lt hT.same.wf h1, ?_⟩
  rcases hc.young with h | h
  ·rw [h] at ha; simp [idOf] at ha
  ·have := hT.tbB; omega
 ·obtain ⟨h1, h2⟩ := hT.rows j (by omega)
  exact ⟨h1, fun a ha => ⟨mine_lt hT.same.wf (h1.ids ha).1, (h2 a ha).2⟩⟩
def comR (A B : List (List UInt8)) : Bool := (FB A).any fun s => (FB B).any fun t => decide (s = t)
theorem comR_eq (A B : List (List UInt8)) : comR A B = comF A B := by
 unfold comR comF
 rw [Bool.eq_iff_iff, List.any_eq_true, List.any_eq_true]
 constructor
 ·rintro ⟨s, hs, h⟩
  rw [List.any_eq_true] at h
  obtain ⟨t, ht, h2⟩ := h
  simp only [FB, List.mem_map, List.mem_filter] at hs ht
  obtain ⟨a, ⟨ha, hva⟩, rfl⟩ := hs
  obtain ⟨b, ⟨hb, hvb⟩, rfl⟩ := ht
  refine ⟨a, ha, ?_⟩
  rw [List.any_eq_true]
  refine ⟨b, hb, ?_⟩
  simp only [decide_eq_true_eq] at h2
  simp [alkB, hva, hvb, h2]
 ·rintro ⟨a, ha, h⟩
  rw [List.any_eq_true] at h
  obtain ⟨b, hb, h2⟩ := h
  simp only [alkB, Bool.and_eq_true, decide_eq_true_eq] at h2
  obtain ⟨⟨h3, h4⟩, h5⟩ := h2
  refine ⟨foldB (strB a), ?_, ?_⟩
  ·simp only [FB, List.mem_map, List.mem_filter]; exact ⟨a, ⟨ha, h4⟩, rfl⟩
  ·rw [List.any_eq_true]
   refine ⟨foldB (strB b), ?_, decide_eq_true h5.symm⟩
   simp only [FB, List.mem_map, List.mem_filter]; exact ⟨b, ⟨hb, h3⟩, rfl⟩
theorem repl_bang {n j : Nat} (h : j < n) : (List.replicate n (Value.slice none 0 0))[j]! = .slice none 0 0 := by
 rw [getElem!_pos _ j (by simpa using h)]; simp
set_option maxHeartbeats 4000000 in
theorem rClashes_ok {H : GHeap} (hw : H.wf) {v : Value} {l : List Tm} (hv : TR H v l) (hl : l.length ≤ 1048576) :
  ∃ r H', gev G 8 [v] H = some (r, H') ∧ OS 2 2 H H' r (claF l l.length).length (PrC (claF l l.length)) := by
 refine gev_GW (f := 8) rfl fun Post hPost => ?_
 have hsl := hv.isSl
 have hlim := hw.1
 have hmk : ∀ k k', gmake [.slice none 0 0] 24 1 H (.int k l.length) (.int k' l.length) = some (.slice (some ⟨H.len, 0, none⟩) l.length (l.length + 1), some (.cells (List.replicate l.length (.slice none 0 0)) 1 true)) := fun k k' => by
  rw [gmake_sq (by omega) (by omega) (by omega), zeros_sl]; rfl
 have hT0 : Tab H (H.add (some (.cells (List.replicate l.length (.slice none 0 0)) 1 true))) H.len (List.replicate l.length (.slice none 0 0)) l 0 0 (H.len + 1) :=
  ⟨(Same.refl hw).add _, mine_add_eq rfl hlim, Nat.le_refl _, by omega, by rw [len_add]; omega, by simp, fun j hj => absurd hj (Nat.not_lt_zero _), fun j _ hj => repl_bang hj⟩
 simp only [frameOf, Nat.reduceAdd]
 repeat' (first | (exfalso; omega) | refine zn ?_ | refine zK rfl ?_ | refine zP rfl ?_ | ((first | refine zm ?_ | skip); intro _; intros; simp (disch := first | exact zd | fail) only [↓yS, yT, gresults, gone, ↓reduceIte, Nat.reduceEqDiff, Nat.reduceAdd, Nat.reduceMul, reduceCtorEq, Int.reduceToNat, g8, hsl.len, hmk]; first | (rename_i K k; (first | refine yC (k _ _ ?_) | refine zg (k _ ?_)); clear k K) | (rename_i A B C D a b c d; (first | refine zx (a ?_) | refine zy (b ?_) | refine zz (fun hc => c ?_) (fun hc => d ?_) | refine zv (b ?_) | refine zw (a ?_)) <;> clear a b c d A B C D <;> try simp only [yL] at hc)) | refine zA ?_ | refine zB ?_ | refine zF ?_)
 generalize H.add (some (.cells (List.replicate l.length (.slice none 0 0)) 1 true)) = H1 at *
 generalize List.replicate l.length (Value.slice none 0 0) = T0 at *
 have hia : ∀ (k : IntKind) (j : Nat), j < l.length → gia none 1 (.slice (some ⟨H.len, 0, none⟩) l.length (l.length + 1)) (.int k j) = some (.pointer (some ⟨H.len, j, none⟩)) := fun k j hj => by
  have := (isSl1 (i := H.len) (n := l.length) (c := l.length + 1)).ia (k := k) (size := 1) (j := (j : Int)) (by omega) (by omega)
  simpa [blk, ofs] using this
 generalize Value.slice (some ⟨H.len, 0, none⟩) l.length (l.length + 1) = tv at *
 generalize H.len = tb at *
 refine GW_loop (fun k fr H2 => ∃ (i B : Nat) (T : List Value), k = l.length - i ∧ i ≤ l.length ∧ fr.get 0 = some (v) ∧ fr.get 3 = some (.slice none 0 0) ∧ fr.get 4 = some (tv) ∧ fr.get 21 = some (v) ∧ fr.get 22 = some (.int .i64 l.length) ∧ fr.get 23 = some (.int .i64 i) ∧ Tab H H2 tb T l i 0 B) ?_ l.length ?_
 rotate_left
 ·refine ⟨0, tb + 1, T0, by omega, by omega, ?_⟩
  simp only [↓yG, Nat.reduceEqDiff, ↓reduceIte, Int.natCast_add, Int.cast_ofNat_Int, Int.natCast_zero, true_and, and_true, Option.some.injEq, Value.int.injEq]
  exact hT0
 rintro k fr H2 ⟨i, B, T, rfl, hi, f0, f3, f4, f21, f22, f23, hT⟩ J hJ
 have hS2 := hT.same
 have hw2 := hS2.wf
 have hlim2 := hw2.1
 by_cases hi1 : i < l.length
 ·obtain ⟨hT1, hC1⟩ := hT.begin hi1
  have hv2 := hv.later hw hS2
  have e1 := hv2.rowN hi1
  have hxm := bang_mem hi1
  have htg := hv2.tg _ hxm
  have htg0 := hv.tg _ hxm
  have hxz := hv.sz _ hxm
  have hfin := @Tab.finish H
  generalize hlx : l[i]! = x at *
  unfold tmV at e1
  have hgt := gsetn_tm (cs := [.string ⟨#[]⟩, .slice none 0 0]) (x := x) rfl htg.flat
  unfold tmV at hgt
  have hSA : Same H2 ((H2.add (some (.cells [.string ⟨#[]⟩, .slice none 0 0] 0 true))).put H2.len (.cells (tmC x) 0 true)) := (Same.refl hw2).new _ _
  have hTA := hT1.later hSA
  have hCA := hC1.later hw2 hSA
  have td1 : (tmC x)[1]? = some x.v := rfl
  have hsx := htg.rd.isSl
  repeat' (first | (exfalso; omega) | refine zn ?_ | refine zK rfl ?_ | refine zP rfl ?_ | ((first | refine zm ?_ | skip); intro _; intros; simp (disch := first | exact zd | fail) only [↓yS, yT, gresults, gone, ↓reduceIte, Nat.reduceEqDiff, Nat.reduceAdd, Nat.reduceMul, reduceCtorEq, Int.reduceToNat, g8, f0, f3, f4, f21, f22, f23, hsl.ia, e1, hgt, td1, hsx.len]; first | (rename_i K k; (first | refine yC (k _ _ ?_) | refine zg (k _ ?_)); clear k K) | (rename_i A B C D a b c d; (first | refine zx (a ?_) | refine zy (b ?_) | refine zz (fun hc => c ?_) (fun hc => d ?_) | refine zv (b ?_) | refine zw (a ?_)) <;> clear a b c d A B C D <;> try simp only [yL] at hc)) | refine zA ?_ | refine zB ?_ | refine zF ?_)
  generalize ((H2.add (some (.cells [.string ⟨#[]⟩, .slice none 0 0] 0 true))).put H2.len (.cells (tmC x) 0 true)) = H3 at *
  generalize H2.len = B2 at *
  refine GW_loop (fun k fr H4 => ∃ (m : Nat) (T' : List Value), k = x.g.length - m ∧ m ≤ x.g.length ∧ fr.get 0 = some (v) ∧ fr.get 3 = some (.slice none 0 0) ∧ fr.get 4 = some (tv) ∧ fr.get 5 = some (.int .i64 i) ∧ fr.get 21 = some (v) ∧ fr.get 22 = some (.int .i64 l.length) ∧ fr.get 23 = some (.int .i64 i) ∧ fr.get 29 = some (x.v) ∧ fr.get 30 = some (.int .i64 x.g.length) ∧ fr.get 31 = some (.int .i64 m) ∧ Tab H H4 tb T' l i 1 B2 ∧ Cur H4 B2 tb T'[i]! (FB (x.g.take m))) ?_ x.g.length ?_
  rotate_left
  ·refine ⟨0, T, by omega, by omega, ?_⟩
   simp only [↓yG, Nat.reduceEqDiff, ↓reduceIte, Int.natCast_add, Int.cast_ofNat_Int, Int.natCast_zero, true_and, and_true, Option.some.injEq, Value.int.injEq, f0, f3, f4, f21, f22, f23]
   exact ⟨hTA, hCA⟩
  rintro k fr H4 ⟨m, T', rfl, hm, i0, i3, i4, i5, i21, i22, i23, i29, i30, i31, hT4, hC4⟩ J2 hJ2
  have hS4 := hT4.same
  have hw4 := hS4.wf
  by_cases hm1 : m < x.g.length
  ·have c1 := SRd.at_ (GArg1.same htg0 hw hS4) hm1
   have hFs := FB_succ hm1
   have hFl := FB_len (x.g.take m)
   rw [List.length_take] at hFl
   have htz := hxz.2.2 _ (bang_mem hm1)
   generalize x.g[m]! = t at *
   have hgo : ∀ (T9 : List Value) fr H9, fr.get 0 = some v → fr.get 3 = some (.slice none 0 0) → fr.get 4 = some tv → fr.get 5 = some (.int .i64 i) → fr.get 21 = some v → fr.get 22 = some (.int .i64 l.length) → fr.get 23 = some (.int .i64 i) → fr.get 29 = some x.v → fr.get 30 = some (.int .i64 x.g.length) → fr.get 31 = some (.int .i64 ((m : Int) + 1)) → Tab H H9 tb T9 l i 1 B2 → Cur H9 B2 tb T9[i]! (FB (x.g.take (m + 1))) → J2 fr H9 := fun T9 fr H9 a1 a2 a3 a4 a5 a6 a7 a8 a9 a10 a11 a12 => hJ2 _ _ ⟨x.g.length - (m + 1), by omega, m + 1, T9, rfl, by omega, a1, a2, a3, a4, a5, a6, a7, a8, a9, by rw [a10]; rfl, a11, a12⟩
   clear hJ2
   repeat' (first | (exfalso; omega) | refine zn ?_ | refine zK rfl ?_ | refine zP rfl ?_ | ((first | refine zm ?_ | skip); intro _; intros; simp (disch := first | exact zd | fail) only [↓yS, yT, gresults, gone, ↓reduceIte, Nat.reduceEqDiff, Nat.reduceAdd, Nat.reduceMul, reduceCtorEq, Int.reduceToNat, g8, i0, i3, i4, i5, i21, i22, i23, i29, i30, i31, hsx.ia, c1]; first | (rename_i K k; (first | refine yC (k _ _ ?_) | refine zg (k _ ?_)); clear k K) | (rename_i A B C D a b c d; (first | refine zx (a ?_) | refine zy (b ?_) | refine zz (fun hc => c ?_) (fun hc => d ?_) | refine zv (b ?_) | refine zw (a ?_)) <;> clear a b c d A B C D <;> try simp only [yL] at hc)) | refine zA ?_ | refine zB ?_ | refine zF ?_)
   refine Gw_s fun K' hK' => G1_call (by simp only [gtarget, ↓GArg.ev, ↓evs, ↓Tr.get_set, Nat.reduceEqDiff, if_true, if_false, ↓reduceIte, Option.map_some, i0, i3, i4, i5, i21, i22, i23, i29, i30, i31]; rfl) (one_of (rvalid_ok (s := strB t) (by rw [strB_size]; omega) _)) fun r5 H5 hq => hK' _ _ ?_
   obtain ⟨rfl, rfl⟩ := hq
   cases hvt : vldB (strB t) with
   | false =>
    rw [hvt, if_neg (by decide)] at hFs
    repeat' (first | (exfalso; omega) | refine zn ?_ | refine zK rfl ?_ | refine zP rfl ?_ | ((first | refine zm ?_ | skip); intro _; intros; simp (disch := first | exact zd | fail) only [↓yS, yT, gresults, gone, ↓reduceIte, Nat.reduceEqDiff, Nat.reduceAdd, Nat.reduceMul, reduceCtorEq, Int.reduceToNat, g8, i0, i3, i4, i5, i21, i22, i23, i29, i30, i31]; first | (rename_i K k; (first | refine yC (k _ _ ?_) | refine zg (k _ ?_)); clear k K) | (rename_i A B C D a b c d; (first | refine zx (a ?_) | refine zy (b ?_) | refine zz (fun hc => c ?_) (fun hc => d ?_) | refine zv (b ?_) | refine zw (a ?_)) <;> clear a b c d A B C D <;> try simp only [yL] at hc)) | refine zA ?_ | refine zB ?_ | refine zF ?_)
    refine hgo T' _ _ ?_ ?_ ?_ ?_ ?_ ?_ ?_ ?_ ?_ ?_ hT4 (by rw [hFs]; exact hC4)
    all_goals (simp only [↓yG, Nat.reduceEqDiff, ↓reduceIte, Int.natCast_add, Int.cast_ofNat_Int, Int.natCast_zero, true_and, and_true, Option.some.injEq, Value.int.injEq, i0, i3, i4, i5, i21, i22, i23, i29, i30, i31])
   | true =>
    rw [hvt, if_pos rfl] at hFs
    have hrT : H5.rd tb i = some T'[i]! := by
     have h1 := mine_rd (o := i) hT4.mine
     rw [h1, List.getElem?_eq_getElem (by rw [hT4.len]; exact hi1), getElem!_pos T' i (by rw [hT4.len]; exact hi1)]
    obtain ⟨v9, H9, e9, hm9, hgs9, hT9, hC9⟩ := tab_app hT4 hi1 hC4 (foldB (strB t)) (by omega)
    repeat' (first | (exfalso; omega) | refine zn ?_ | refine zK rfl ?_ | refine zP rfl ?_ | ((first | refine zm ?_ | skip); intro _; intros; simp (disch := first | exact zd | fail) only [↓yS, yT, gresults, gone, ↓reduceIte, Nat.reduceEqDiff, Nat.reduceAdd, Nat.reduceMul, reduceCtorEq, Int.reduceToNat, g8, i0, i3, i4, i5, i21, i22, i23, i29, i30, i31, hia, hrT]; first | (rename_i K k; (first | refine yC (k _ _ ?_) | refine zg (k _ ?_)); clear k K) | (rename_i A B C D a b c d; (first | refine zx (a ?_) | refine zy (b ?_) | refine zz (fun hc => c ?_) (fun hc => d ?_) | refine zv (b ?_) | refine zw (a ?_)) <;> clear a b c d A B C D <;> try simp only [yL] at hc)) | refine zA ?_ | refine zB ?_ | refine zF ?_)
    refine Gw_s fun K' hK' => G1_callM (by simp only [gtarget, ↓GArg.ev, ↓evs, ↓Tr.get_set, Nat.reduceEqDiff, if_true, if_false, ↓reduceIte, Option.map_some, i0, i3, i4, i5, i21, i22, i23, i29, i30, i31]; rfl) (one_of (rfold_ok (s := strB t) (by rw [strB_size]; omega) _)) fun r6 H6 hq => hK' _ _ ?_
    obtain ⟨rfl, rfl⟩ := hq
    rw [updown]
    repeat' (first | (exfalso; omega) | refine zn ?_ | refine zK rfl ?_ | refine zP rfl ?_ | ((first | refine zm ?_ | skip); intro _; intros; simp (disch := first | exact zd | fail) only [↓yS, yT, gresults, gone, ↓reduceIte, Nat.reduceEqDiff, Nat.reduceAdd, Nat.reduceMul, reduceCtorEq, Int.reduceToNat, g8, i0, i3, i4, i5, i21, i22, i23, i29, i30, i31, hia]; first | (rename_i K k; (first | refine yC (k _ _ ?_) | refine zg (k _ ?_)); clear k K) | (rename_i A B C D a b c d; (first | refine zx (a ?_) | refine zy (b ?_) | refine zz (fun hc => c ?_) (fun hc => d ?_) | refine zv (b ?_) | refine zw (a ?_)) <;> clear a b c d A B C D <;> try simp only [yL] at hc)) | refine zA ?_ | refine zB ?_ | refine zF ?_)
    have hrow : (List.take 0 (zeros [.string ⟨#[]⟩] 1) ++ (Value.string (strB (foldB (strB t)))).cells.toList ++ List.drop 1 (zeros [.string ⟨#[]⟩] 1)) = strs [foldB (strB t)] := rfl
    rw [hrow]
    refine Gw_s fun K' hK' => ?_
    simp (disch := first | exact zd | fail) only [↓yS, yT, ↓reduceIte, Nat.reduceEqDiff, Nat.reduceAdd, Nat.reduceMul, reduceCtorEq, Int.reduceToNat, i0, i3, i4, i5, i21, i22, i23, i29, i30, i31]
    refine G1_eq e9 (hK' _ _ ?_)
    clear hK' K' e9
    repeat' (first | (exfalso; omega) | refine zn ?_ | refine zK rfl ?_ | refine zP rfl ?_ | ((first | refine zm ?_ | skip); intro _; intros; simp (disch := first | exact zd | fail) only [↓yS, yT, gresults, gone, ↓reduceIte, Nat.reduceEqDiff, Nat.reduceAdd, Nat.reduceMul, reduceCtorEq, Int.reduceToNat, g8, i0, i3, i4, i5, i21, i22, i23, i29, i30, i31, hia, hm9, hgs9]; first | (rename_i K k; (first | refine yC (k _ _ ?_) | refine zg (k _ ?_)); clear k K) | (rename_i A B C D a b c d; (first | refine zx (a ?_) | refine zy (b ?_) | refine zz (fun hc => c ?_) (fun hc => d ?_) | refine zv (b ?_) | refine zw (a ?_)) <;> clear a b c d A B C D <;> try simp only [yL] at hc)) | refine zA ?_ | refine zB ?_ | refine zF ?_)
    refine hgo _ _ _ ?_ ?_ ?_ ?_ ?_ ?_ ?_ ?_ ?_ ?_ hT9 (by rw [hFs]; exact hC9)
    all_goals (simp only [↓yG, Nat.reduceEqDiff, ↓reduceIte, Int.natCast_add, Int.cast_ofNat_Int, Int.natCast_zero, true_and, and_true, Option.some.injEq, Value.int.injEq, i0, i3, i4, i5, i21, i22, i23, i29, i30, i31])
  ·obtain rfl : m = x.g.length := by omega
   rw [List.take_length, ← hlx] at hC4
   have hTf := hT4.finish hC4
   repeat' (first | (exfalso; omega) | refine zn ?_ | refine zK rfl ?_ | refine zP rfl ?_ | ((first | refine zm ?_ | skip); intro _; intros; simp (disch := first | exact zd | fail) only [↓yS, yT, gresults, gone, ↓reduceIte, Nat.reduceEqDiff, Nat.reduceAdd, Nat.reduceMul, reduceCtorEq, Int.reduceToNat, g8, i0, i3, i4, i5, i21, i22, i23, i29, i30, i31]; first | (rename_i K k; (first | refine yC (k _ _ ?_) | refine zg (k _ ?_)); clear k K) | (rename_i A B C D a b c d; (first | refine zx (a ?_) | refine zy (b ?_) | refine zz (fun hc => c ?_) (fun hc => d ?_) | refine zv (b ?_) | refine zw (a ?_)) <;> clear a b c d A B C D <;> try simp only [yL] at hc)) | refine zA ?_ | refine zB ?_ | refine zF ?_)
   refine hJ _ _ ⟨l.length - (i + 1), by omega, i + 1, H4.len, T', rfl, by omega, ?_⟩
   simp only [↓yG, Nat.reduceEqDiff, ↓reduceIte, Int.natCast_add, Int.cast_ofNat_Int, Int.natCast_zero, true_and, and_true, Option.some.injEq, Value.int.injEq, i0, i3, i4, i5, i21, i22, i23, i29, i30, i31]
   exact hTf
 obtain rfl : i = l.length := by omega
 have hrows : ∀ j, j < l.length → SRd H2 T[j]! (FB l[j]!.g) := fun j hj => OwnG.arg hw2 (hT.rows j hj).1 (.inr rfl)
 have hrdT : ∀ j, j < l.length → H2.rd tb j = some T[j]! := fun j hj => by
  have h1 := mine_rd (o := j) hT.mine
  rw [h1, List.getElem?_eq_getElem (by rw [hT.len]; exact hj), getElem!_pos T j (by rw [hT.len]; exact hj)]
 have htlt := mine_lt hw2 hT.mine
 clear hT hT0
 repeat' (first | (exfalso; omega) | refine zn ?_ | refine zK rfl ?_ | refine zP rfl ?_ | ((first | refine zm ?_ | skip); intro _; intros; simp (disch := first | exact zd | fail) only [↓yS, yT, gresults, gone, ↓reduceIte, Nat.reduceEqDiff, Nat.reduceAdd, Nat.reduceMul, reduceCtorEq, Int.reduceToNat, g8, f0, f3, f4, f21, f22, f23, hsl.len]; first | (rename_i K k; (first | refine yC (k _ _ ?_) | refine zg (k _ ?_)); clear k K) | (rename_i A B C D a b c d; (first | refine zx (a ?_) | refine zy (b ?_) | refine zz (fun hc => c ?_) (fun hc => d ?_) | refine zv (b ?_) | refine zw (a ?_)) <;> clear a b c d A B C D <;> try simp only [yL] at hc)) | refine zA ?_ | refine zB ?_ | refine zF ?_)
 clear hJ
 refine GW_loop (fun k fr H3 => ∃ (i : Nat) (ov : Value), k = l.length - i ∧ i ≤ l.length ∧ fr.get 0 = some (v) ∧ fr.get 3 = some (ov) ∧ fr.get 4 = some (tv) ∧ fr.get 50 = some (v) ∧ fr.get 51 = some (.int .i64 l.length) ∧ fr.get 52 = some (.int .i64 i) ∧ OS 2 2 H2 H3 ov (claF l i).length (PrC (claF l i))) ?_ l.length ?_
 rotate_left
 ·refine ⟨0, .slice none 0 0, by omega, by omega, ?_⟩
  simp only [↓yG, Nat.reduceEqDiff, ↓reduceIte, Int.natCast_add, Int.cast_ofNat_Int, Int.natCast_zero, true_and, and_true, Option.some.injEq, Value.int.injEq, f0, f3, f4, f21, f22, f23]
  exact OS.nil (Same.refl hw2)
 rintro k fr H3 ⟨i, ov, rfl, hi, g0, g3, g4, g50, g51, g52, hO⟩ J hJ
 have hS3 := hO.same
 have hw3 := hS3.wf
 have hlim3 := hw3.1
 by_cases hi1 : i < l.length
 case neg =>
  obtain rfl : i = l.length := by omega
  repeat' (first | (exfalso; omega) | refine zn ?_ | refine zK rfl ?_ | refine zP rfl ?_ | ((first | refine zm ?_ | skip); intro _; intros; simp (disch := first | exact zd | fail) only [↓yS, yT, gresults, gone, ↓reduceIte, Nat.reduceEqDiff, Nat.reduceAdd, Nat.reduceMul, reduceCtorEq, Int.reduceToNat, g8, g0, g3, g4, g50, g51, g52]; first | (rename_i K k; (first | refine yC (k _ _ ?_) | refine zg (k _ ?_)); clear k K) | (rename_i A B C D a b c d; (first | refine zx (a ?_) | refine zy (b ?_) | refine zz (fun hc => c ?_) (fun hc => d ?_) | refine zv (b ?_) | refine zw (a ?_)) <;> clear a b c d A B C D <;> try simp only [yL] at hc)) | refine zA ?_ | refine zB ?_ | refine zF ?_)
  exact hPost _ _ (hO.weaken hS2)
 have hv3 := hv.later hw (hS2.trans hS3)
 have e1 := hv3.rowN hi1
 have hxm := bang_mem hi1
 have htg := hv3.tg _ hxm
 have hxz := hv.sz _ hxm
 have hcs := claF_succ l i
 have hsm := fun j hj => cla_small hl (i := i) (j := j) hi1 hj
 have hcR := claR_succ l i
 have hP : ∀ j, claP l i j = (decide (¬ i = j) && conB l[j]!.s l[i]!.s && !comF l[i]!.g l[j]!.g) := fun j => rfl
 have hrA := hrows i hi1
 have hFlA := FB_len l[i]!.g
 generalize l[i]! = x at *
 unfold tmV at e1
 have hgt := gsetn_tm (cs := [.string ⟨#[]⟩, .slice none 0 0]) (x := x) rfl htg.flat
 unfold tmV at hgt
 have hSA : Same H3 ((H3.add (some (.cells [.string ⟨#[]⟩, .slice none 0 0] 0 true))).put H3.len (.cells (tmC x) 0 true)) := (Same.refl hw3).new _ _
 have hm5 : ((H3.add (some (.cells [.string ⟨#[]⟩, .slice none 0 0] 0 true))).put H3.len (.cells (tmC x) 0 true)).mine H3.len = some (tmC x, 0) := mine_put_same (by simp only [lim_add]; omega)
 have hO1 := hO.later hSA
 repeat' (first | (exfalso; omega) | refine zn ?_ | refine zK rfl ?_ | refine zP rfl ?_ | ((first | refine zm ?_ | skip); intro _; intros; simp (disch := first | exact zd | fail) only [↓yS, yT, gresults, gone, ↓reduceIte, Nat.reduceEqDiff, Nat.reduceAdd, Nat.reduceMul, reduceCtorEq, Int.reduceToNat, g8, g0, g3, g4, g50, g51, g52, hsl.ia, e1, hgt, hsl.len]; first | (rename_i K k; (first | refine yC (k _ _ ?_) | refine zg (k _ ?_)); clear k K) | (rename_i A B C D a b c d; (first | refine zx (a ?_) | refine zy (b ?_) | refine zz (fun hc => c ?_) (fun hc => d ?_) | refine zv (b ?_) | refine zw (a ?_)) <;> clear a b c d A B C D <;> try simp only [yL] at hc)) | refine zA ?_ | refine zB ?_ | refine zF ?_)
 generalize ((H3.add (some (.cells [.string ⟨#[]⟩, .slice none 0 0] 0 true))).put H3.len (.cells (tmC x) 0 true)) = H4 at *
 generalize H3.len = a5 at *
 have hR0 : claR l i 0 = [] := rfl
 refine GW_loop (fun k fr H5 => ∃ (j : Nat) (ow : Value), k = l.length - j ∧ j ≤ l.length ∧ fr.get 0 = some (v) ∧ fr.get 3 = some (ow) ∧ fr.get 4 = some (tv) ∧ fr.get 9 = some (.int .i64 i) ∧ fr.get 10 = some (.pointer (some ⟨a5, 0, none⟩)) ∧ fr.get 50 = some (v) ∧ fr.get 51 = some (.int .i64 l.length) ∧ fr.get 52 = some (.int .i64 i) ∧ fr.get 57 = some (v) ∧ fr.get 58 = some (.int .i64 l.length) ∧ fr.get 59 = some (.int .i64 j) ∧ OS 2 2 H2 H5 ow (claF l i ++ claR l i j).length (PrC (claF l i ++ claR l i j)) ∧ H5.mine a5 = some (tmC x, 0)) ?_ l.length ?_
 rotate_left
 ·refine ⟨0, ov, by omega, by omega, ?_⟩
  simp only [↓yG, Nat.reduceEqDiff, ↓reduceIte, Int.natCast_add, Int.cast_ofNat_Int, Int.natCast_zero, true_and, and_true, Option.some.injEq, Value.int.injEq, g0, g3, g4, g50, g51, g52]
  rw [hR0, List.append_nil]
  exact ⟨hO1, hm5⟩
 rintro k fr H5 ⟨j, ow, rfl, hj, i0, i3, i4, i9, i10, i50, i51, i52, i57, i58, i59, hO3, hm3⟩ J2 hJ2
 have hS5 := hO3.same
 have hw5 := hS5.wf
 have hlim5 := hw5.1
 by_cases hj1 : j < l.length
 case neg =>
  obtain rfl : j = l.length := by omega
  rw [← hcs] at hO3
  repeat' (first | (exfalso; omega) | refine zn ?_ | refine zK rfl ?_ | refine zP rfl ?_ | ((first | refine zm ?_ | skip); intro _; intros; simp (disch := first | exact zd | fail) only [↓yS, yT, gresults, gone, ↓reduceIte, Nat.reduceEqDiff, Nat.reduceAdd, Nat.reduceMul, reduceCtorEq, Int.reduceToNat, g8, i0, i3, i4, i9, i10, i50, i51, i52, i57, i58, i59]; first | (rename_i K k; (first | refine yC (k _ _ ?_) | refine zg (k _ ?_)); clear k K) | (rename_i A B C D a b c d; (first | refine zx (a ?_) | refine zy (b ?_) | refine zz (fun hc => c ?_) (fun hc => d ?_) | refine zv (b ?_) | refine zw (a ?_)) <;> clear a b c d A B C D <;> try simp only [yL] at hc)) | refine zA ?_ | refine zB ?_ | refine zF ?_)
  refine hJ _ _ ⟨l.length - (i + 1), by omega, i + 1, ow, rfl, by omega, ?_⟩
  simp only [↓yG, Nat.reduceEqDiff, ↓reduceIte, Int.natCast_add, Int.cast_ofNat_Int, Int.natCast_zero, true_and, and_true, Option.some.injEq, Value.int.injEq, i0, i3, i4, i9, i10, i50, i51, i52, i57, i58, i59]
  exact hO3
 have hv5 := hv.later hw (hS2.trans hS5)
 have e3 := hv5.rowN hj1
 have hym := bang_mem hj1
 have htg3 := hv5.tg _ hym
 have hyz := hv.sz _ hym
 have hcj := hcR j
 rw [hP j] at hcj
 have hsmj := hsm j hj
 have hrB := hrows j hj1
 have hFlB := FB_len l[j]!.g
 generalize l[j]! = y at *
 unfold tmV at e3
 have hgy := gsetn_tm (cs := [.string ⟨#[]⟩, .slice none 0 0]) (x := y) rfl htg3.flat
 unfold tmV at hgy
 have hSB : Same H5 ((H5.add (some (.cells [.string ⟨#[]⟩, .slice none 0 0] 0 true))).put H5.len (.cells (tmC y) 0 true)) := (Same.refl hw5).new _ _
 have hm7 : ((H5.add (some (.cells [.string ⟨#[]⟩, .slice none 0 0] 0 true))).put H5.len (.cells (tmC y) 0 true)).mine H5.len = some (tmC y, 0) := mine_put_same (by simp only [lim_add]; omega)
 have hm5B : ((H5.add (some (.cells [.string ⟨#[]⟩, .slice none 0 0] 0 true))).put H5.len (.cells (tmC y) 0 true)).mine a5 = some (tmC x, 0) := by rw [hSB.mine (mine_lt hw5 hm3)]; exact hm3
 have hO4 := hO3.later hSB
 have hSH := hO4.same
 have hgo : ∀ (ow' : Value) fr H9, fr.get 0 = some v → fr.get 3 = some ow' → fr.get 4 = some tv → fr.get 9 = some (.int .i64 i) → fr.get 10 = some (.pointer (some ⟨a5, 0, none⟩)) → fr.get 50 = some v → fr.get 51 = some (.int .i64 l.length) → fr.get 52 = some (.int .i64 i) → fr.get 57 = some v → fr.get 58 = some (.int .i64 l.length) → fr.get 59 = some (.int .i64 ((j : Int) + 1)) → OS 2 2 H2 H9 ow' (claF l i ++ claR l i (j + 1)).length (PrC (claF l i ++ claR l i (j + 1))) → H9.mine a5 = some (tmC x, 0) → J2 fr H9 := fun ow' fr H9 a1 a2 a3 a4 a5 a6 a7 a8 a9 a10 a11 a12 a13 => hJ2 _ _ ⟨l.length - (j + 1), by omega, j + 1, ow', rfl, by omega, a1, a2, a3, a4, a5, a6, a7, a8, a9, a10, by rw [a11]; rfl, a12, a13⟩
 clear hJ2
 have h5lt : a5 < H5.len := mine_lt hw5 hm3
 have hr50 : ((H5.add (some (.cells [.string ⟨#[]⟩, .slice none 0 0] 0 true))).put H5.len (.cells (tmC y) 0 true)).rd a5 0 = some (.string (strB x.s)) := mine_rd hm5B
 have hr70 : ((H5.add (some (.cells [.string ⟨#[]⟩, .slice none 0 0] 0 true))).put H5.len (.cells (tmC y) 0 true)).rd H5.len 0 = some (.string (strB y.s)) := mine_rd hm7
 by_cases hij : i = j
 ·rw [decide_eq_false (fun h => h hij), Bool.false_and, Bool.false_and, if_neg (by decide)] at hcj
  have hij' : (i : Int) = j := by omega
  repeat' (first | (exfalso; omega) | refine zn ?_ | refine zK rfl ?_ | refine zP rfl ?_ | ((first | refine zm ?_ | skip); intro _; intros; simp (disch := first | exact zd | fail) only [↓yS, yT, gresults, gone, ↓reduceIte, Nat.reduceEqDiff, Nat.reduceAdd, Nat.reduceMul, reduceCtorEq, Int.reduceToNat, g8, i0, i3, i4, i9, i10, i50, i51, i52, i57, i58, i59, hsl.ia, e3, hgy]; first | (rename_i K k; (first | refine yC (k _ _ ?_) | refine zg (k _ ?_)); clear k K) | (rename_i A B C D a b c d; (first | refine zx (a ?_) | refine zy (b ?_) | refine zz (fun hc => c ?_) (fun hc => d ?_) | refine zv (b ?_) | refine zw (a ?_)) <;> clear a b c d A B C D <;> try simp only [yL] at hc)) | refine zA ?_ | refine zB ?_ | refine zF ?_)
  refine hgo ow _ _ ?_ ?_ ?_ ?_ ?_ ?_ ?_ ?_ ?_ ?_ ?_ (by rw [hcj]; exact hO4) hm5B
  all_goals (simp only [↓yG, Nat.reduceEqDiff, ↓reduceIte, Int.natCast_add, Int.cast_ofNat_Int, Int.natCast_zero, true_and, and_true, Option.some.injEq, Value.int.injEq, i0, i3, i4, i9, i10, i50, i51, i52, i57, i58, i59])
 rw [decide_eq_true hij, Bool.true_and] at hcj
 have hij' : ¬ (i : Int) = j := by omega
 repeat' (first | (exfalso; omega) | refine zn ?_ | refine zK rfl ?_ | refine zP rfl ?_ | ((first | refine zm ?_ | skip); intro _; intros; simp (disch := first | exact zd | fail) only [↓yS, yT, gresults, gone, ↓reduceIte, Nat.reduceEqDiff, Nat.reduceAdd, Nat.reduceMul, reduceCtorEq, Int.reduceToNat, g8, i0, i3, i4, i9, i10, i50, i51, i52, i57, i58, i59, hsl.ia, e3, hgy, hr50, hr70]; first | (rename_i K k; (first | refine yC (k _ _ ?_) | refine zg (k _ ?_)); clear k K) | (rename_i A B C D a b c d; (first | refine zx (a ?_) | refine zy (b ?_) | refine zz (fun hc => c ?_) (fun hc => d ?_) | refine zv (b ?_) | refine zw (a ?_)) <;> clear a b c d A B C D <;> try simp only [yL] at hc)) | refine zA ?_ | refine zB ?_ | refine zF ?_)
 intro K' hK'; refine G1_call (by simp only [gtarget, ↓GArg.ev, ↓evs, ↓Tr.get_set, Nat.reduceEqDiff, if_true, if_false, ↓reduceIte, Option.map_some, i0, i3, i4, i9, i10, i50, i51, i52, i57, i58, i59, hr50, hr70]; rfl) (one_of (rContains_ok (x := y.s) (t := x.s) (by omega) (by omega) _)) fun r4 H6 hq => hK' _ _ ?_
 obtain ⟨rfl, rfl⟩ := hq
 cases hcon : conB y.s x.s with
 | false =>
  rw [hcon, Bool.false_and, if_neg (by decide)] at hcj
  repeat' (first | (exfalso; omega) | refine zn ?_ | refine zK rfl ?_ | refine zP rfl ?_ | ((first | refine zm ?_ | skip); intro _; intros; simp (disch := first | exact zd | fail) only [↓yS, yT, gresults, gone, ↓reduceIte, Nat.reduceEqDiff, Nat.reduceAdd, Nat.reduceMul, reduceCtorEq, Int.reduceToNat, g8, i0, i3, i4, i9, i10, i50, i51, i52, i57, i58, i59]; first | (rename_i K k; (first | refine yC (k _ _ ?_) | refine zg (k _ ?_)); clear k K) | (rename_i A B C D a b c d; (first | refine zx (a ?_) | refine zy (b ?_) | refine zz (fun hc => c ?_) (fun hc => d ?_) | refine zv (b ?_) | refine zw (a ?_)) <;> clear a b c d A B C D <;> try simp only [yL] at hc)) | refine zA ?_ | refine zB ?_ | refine zF ?_)
  refine hgo ow _ _ ?_ ?_ ?_ ?_ ?_ ?_ ?_ ?_ ?_ ?_ ?_ (by rw [hcj]; exact hO4) hm5B
  all_goals (simp only [↓yG, Nat.reduceEqDiff, ↓reduceIte, Int.natCast_add, Int.cast_ofNat_Int, Int.natCast_zero, true_and, and_true, Option.some.injEq, Value.int.injEq, i0, i3, i4, i9, i10, i50, i51, i52, i57, i58, i59])
 | true =>
 rw [hcon, Bool.true_and, ← comR_eq] at hcj
 have hrA' : SRd _ T[i]! (FB x.g) := GArg1.same hrA hw2 hSH
 have hrB' : SRd _ T[j]! (FB y.g) := GArg1.same hrB hw2 hSH
 have hti : ((H5.add (some (.cells [.string ⟨#[]⟩, .slice none 0 0] 0 true))).put H5.len (.cells (tmC y) 0 true)).rd tb i = some T[i]! := by rw [hSH.rd htlt]; exact hrdT i hi1
 have htj : ((H5.add (some (.cells [.string ⟨#[]⟩, .slice none 0 0] 0 true))).put H5.len (.cells (tmC y) 0 true)).rd tb j = some T[j]! := by rw [hSH.rd htlt]; exact hrdT j hj1
 generalize ((H5.add (some (.cells [.string ⟨#[]⟩, .slice none 0 0] 0 true))).put H5.len (.cells (tmC y) 0 true)) = HB at *
 unfold comR at hcj
 generalize T[i]! = ra at *
 generalize T[j]! = rb at *
 have hA2 := hxz.2.1
 have hB2 := hyz.2.1
 generalize FB x.g = FA at *
 generalize FB y.g = FBy at *
 have hsA := hrA'.rd.isSl
 have hsB := hrB'.rd.isSl
 repeat' (first | (exfalso; omega) | refine zn ?_ | refine zK rfl ?_ | refine zP rfl ?_ | ((first | refine zm ?_ | skip); intro _; intros; simp (disch := first | exact zd | fail) only [↓yS, yT, gresults, gone, ↓reduceIte, Nat.reduceEqDiff, Nat.reduceAdd, Nat.reduceMul, reduceCtorEq, Int.reduceToNat, g8, i0, i3, i4, i9, i10, i50, i51, i52, i57, i58, i59, hia, hti, hsA.len]; first | (rename_i K k; (first | refine yC (k _ _ ?_) | refine zg (k _ ?_)); clear k K) | (rename_i A B C D a b c d; (first | refine zx (a ?_) | refine zy (b ?_) | refine zz (fun hc => c ?_) (fun hc => d ?_) | refine zv (b ?_) | refine zw (a ?_)) <;> clear a b c d A B C D <;> try simp only [yL] at hc)) | refine zA ?_ | refine zB ?_ | refine zF ?_)
 refine GW_loop (fun k fr H7 => ∃ (p : Nat), k = FA.length - p ∧ p ≤ FA.length ∧ fr.get 0 = some (v) ∧ fr.get 3 = some (ow) ∧ fr.get 4 = some (tv) ∧ fr.get 9 = some (.int .i64 i) ∧ fr.get 10 = some (.pointer (some ⟨a5, 0, none⟩)) ∧ fr.get 11 = some (.int .i64 j) ∧ fr.get 13 = some (.bool ((FA.take p).any fun s => FBy.any fun t => decide (s = t))) ∧ fr.get 50 = some (v) ∧ fr.get 51 = some (.int .i64 l.length) ∧ fr.get 52 = some (.int .i64 i) ∧ fr.get 57 = some (v) ∧ fr.get 58 = some (.int .i64 l.length) ∧ fr.get 59 = some (.int .i64 j) ∧ fr.get 78 = some (ra) ∧ fr.get 79 = some (.int .i64 FA.length) ∧ fr.get 80 = some (.int .i64 p) ∧ H7 = HB) ?_ FA.length ?_
 rotate_left
 ·refine ⟨0, by omega, by omega, ?_⟩
  simp only [↓yG, Nat.reduceEqDiff, ↓reduceIte, Int.natCast_add, Int.cast_ofNat_Int, Int.natCast_zero, true_and, and_true, Option.some.injEq, Value.int.injEq, i0, i3, i4, i9, i10, i50, i51, i52, i57, i58, i59]
  first | rfl | trivial | skip
 rintro k fr H7 ⟨p, rfl, hp, q0, q3, q4, q9, q10, q11, q13, q50, q51, q52, q57, q58, q59, q78, q79, q80, rfl⟩ J3 hJ3
 by_cases hp1 : p < FA.length
 case neg =>
  obtain rfl : p = FA.length := by omega
  rw [List.take_length] at q13
  cases hco : (FA.any fun s => FBy.any fun t => decide (s = t)) with
  | true =>
   rw [hco, Bool.not_true, if_neg (by decide)] at hcj
   rw [hco] at q13
   repeat' (first | (exfalso; omega) | refine zn ?_ | refine zK rfl ?_ | refine zP rfl ?_ | ((first | refine zm ?_ | skip); intro _; intros; simp (disch := first | exact zd | fail) only [↓yS, yT, gresults, gone, ↓reduceIte, Nat.reduceEqDiff, Nat.reduceAdd, Nat.reduceMul, reduceCtorEq, Int.reduceToNat, g8, q0, q3, q4, q9, q10, q11, q13, q50, q51, q52, q57, q58, q59, q78, q79, q80]; first | (rename_i K k; (first | refine yC (k _ _ ?_) | refine zg (k _ ?_)); clear k K) | (rename_i A B C D a b c d; (first | refine zx (a ?_) | refine zy (b ?_) | refine zz (fun hc => c ?_) (fun hc => d ?_) | refine zv (b ?_) | refine zw (a ?_)) <;> clear a b c d A B C D <;> try simp only [yL] at hc)) | refine zA ?_ | refine zB ?_ | refine zF ?_)
   refine hgo ow _ _ ?_ ?_ ?_ ?_ ?_ ?_ ?_ ?_ ?_ ?_ ?_ (by rw [hcj]; exact hO4) hm5B
   all_goals (simp only [↓yG, Nat.reduceEqDiff, ↓reduceIte, Int.natCast_add, Int.cast_ofNat_Int, Int.natCast_zero, true_and, and_true, Option.some.injEq, Value.int.injEq, q0, q3, q4, q9, q10, q11, q13, q50, q51, q52, q57, q58, q59])
  | false =>
   rw [hco, Bool.not_false, if_pos rfl] at hcj
   rw [hco] at q13
   have hfp : fillL (zeros [.int .i64 0, .int .i64 0] 1) [(0, 2, .agg #[.int .i64 i, .int .i64 j])] = some (prC (i, j)) := by
    simp [fillL, zeros, Value.cells, flatV, prC]
   repeat' (first | (exfalso; omega) | refine zn ?_ | refine zK rfl ?_ | refine zP rfl ?_ | ((first | refine zm ?_ | skip); intro _; intros; simp (disch := first | exact zd | fail) only [↓yS, yT, gresults, gone, ↓reduceIte, Nat.reduceEqDiff, Nat.reduceAdd, Nat.reduceMul, reduceCtorEq, Int.reduceToNat, g8, q0, q3, q4, q9, q10, q11, q13, q50, q51, q52, q57, q58, q59, q78, q79, q80, hfp]; first | (rename_i K k; (first | refine yC (k _ _ ?_) | refine zg (k _ ?_)); clear k K) | (rename_i A B C D a b c d; (first | refine zx (a ?_) | refine zy (b ?_) | refine zz (fun hc => c ?_) (fun hc => d ?_) | refine zv (b ?_) | refine zw (a ?_)) <;> clear a b c d A B C D <;> try simp only [yL] at hc)) | refine zA ?_ | refine zB ?_ | refine zF ?_)
   refine Gw_s fun K' hK' => ?_
   simp (disch := first | exact zd | fail) only [↓yS, yT, ↓reduceIte, Nat.reduceEqDiff, Nat.reduceAdd, Nat.reduceMul, reduceCtorEq, Int.reduceToNat, q0, q3, q4, q9, q10, q11, q13, q50, q51, q52, q57, q58, q59]
   obtain ⟨v9, H9, e, hO9, hB9⟩ := hO4.app1 (b := 16) (by decide) (by decide) (news := prC (i, j)) rfl (by omega) (by omega)
   refine G1_eq e (hK' _ _ ?_)
   clear hK' K' e
   have hm5' : H9.mine a5 = some (tmC x, 0) := by
    rw [hB9.mine (mine_lt hSB.wf hm5B) fun ha => ?_]
    ·exact hm5B
    ·have h1 := (hO4.ids ha).2.2
     rw [hm5B] at h1
     simp at h1
   repeat' (first | (exfalso; omega) | refine zn ?_ | refine zK rfl ?_ | refine zP rfl ?_ | ((first | refine zm ?_ | skip); intro _; intros; simp (disch := first | exact zd | fail) only [↓yS, yT, gresults, gone, ↓reduceIte, Nat.reduceEqDiff, Nat.reduceAdd, Nat.reduceMul, reduceCtorEq, Int.reduceToNat, g8, q0, q3, q4, q9, q10, q11, q13, q50, q51, q52, q57, q58, q59]; first | (rename_i K k; (first | refine yC (k _ _ ?_) | refine zg (k _ ?_)); clear k K) | (rename_i A B C D a b c d; (first | refine zx (a ?_) | refine zy (b ?_) | refine zz (fun hc => c ?_) (fun hc => d ?_) | refine zv (b ?_) | refine zw (a ?_)) <;> clear a b c d A B C D <;> try simp only [yL] at hc)) | refine zA ?_ | refine zB ?_ | refine zF ?_)
   have hO9' : OS 2 2 H2 H9 v9 (claF l i ++ claR l i (j + 1)).length (PrC (claF l i ++ claR l i (j + 1))) := by
    rw [hcj, ← List.append_assoc, PrC_snoc, List.length_append]; exact hO9
   refine hgo v9 _ _ ?_ ?_ ?_ ?_ ?_ ?_ ?_ ?_ ?_ ?_ ?_ hO9' hm5'
   all_goals (simp only [↓yG, Nat.reduceEqDiff, ↓reduceIte, Int.natCast_add, Int.cast_ofNat_Int, Int.natCast_zero, true_and, and_true, Option.some.injEq, Value.int.injEq, q0, q3, q4, q9, q10, q11, q13, q50, q51, q52, q57, q58, q59])
 have c1 := SRd.at_ hrA' hp1
 have hts : ((FA.take (p + 1)).any fun s => FBy.any fun t => decide (s = t)) = (((FA.take p).any fun s => FBy.any fun t => decide (s = t)) || (FBy.any fun t => decide (FA[p]! = t))) := by
  rw [List.take_succ_eq_append_getElem hp1, List.any_append, getElem!_pos FA p hp1]; simp
 generalize hc0 : ((FA.take p).any fun s => FBy.any fun t => decide (s = t)) = c0 at *
 generalize FA[p]! = s at *
 repeat' (first | (exfalso; omega) | refine zn ?_ | refine zK rfl ?_ | refine zP rfl ?_ | ((first | refine zm ?_ | skip); intro _; intros; simp (disch := first | exact zd | fail) only [↓yS, yT, gresults, gone, ↓reduceIte, Nat.reduceEqDiff, Nat.reduceAdd, Nat.reduceMul, reduceCtorEq, Int.reduceToNat, g8, q0, q3, q4, q9, q10, q11, q13, q50, q51, q52, q57, q58, q59, q78, q79, q80, hsA.ia, c1, hia, htj, hsB.len]; first | (rename_i K k; (first | refine yC (k _ _ ?_) | refine zg (k _ ?_)); clear k K) | (rename_i A B C D a b c d; (first | refine zx (a ?_) | refine zy (b ?_) | refine zz (fun hc => c ?_) (fun hc => d ?_) | refine zv (b ?_) | refine zw (a ?_)) <;> clear a b c d A B C D <;> try simp only [yL] at hc)) | refine zA ?_ | refine zB ?_ | refine zF ?_)
 refine GW_loop (fun k fr H8 => ∃ (m : Nat), k = FBy.length - m ∧ m ≤ FBy.length ∧ fr.get 0 = some (v) ∧ fr.get 3 = some (ow) ∧ fr.get 4 = some (tv) ∧ fr.get 9 = some (.int .i64 i) ∧ fr.get 10 = some (.pointer (some ⟨a5, 0, none⟩)) ∧ fr.get 11 = some (.int .i64 j) ∧ fr.get 13 = some (.bool (c0 || (FBy.take m).any fun t => decide (s = t))) ∧ fr.get 15 = some (.string (strB s)) ∧ fr.get 50 = some (v) ∧ fr.get 51 = some (.int .i64 l.length) ∧ fr.get 52 = some (.int .i64 i) ∧ fr.get 57 = some (v) ∧ fr.get 58 = some (.int .i64 l.length) ∧ fr.get 59 = some (.int .i64 j) ∧ fr.get 78 = some (ra) ∧ fr.get 79 = some (.int .i64 FA.length) ∧ fr.get 80 = some (.int .i64 p) ∧ fr.get 87 = some (rb) ∧ fr.get 88 = some (.int .i64 FBy.length) ∧ fr.get 89 = some (.int .i64 m) ∧ H8 = H7) ?_ FBy.length ?_
 rotate_left
 ·refine ⟨0, by omega, by omega, ?_⟩
  simp only [↓yG, Nat.reduceEqDiff, ↓reduceIte, Int.natCast_add, Int.cast_ofNat_Int, Int.natCast_zero, true_and, and_true, Option.some.injEq, Value.int.injEq, q0, q3, q4, q9, q10, q11, q13, q50, q51, q52, q57, q58, q59, q78, q79, q80]
  first | rfl | simp
 rintro k fr H8 ⟨m, rfl, hm, o0, o3, o4, o9, o10, o11, o13, o15, o50, o51, o52, o57, o58, o59, o78, o79, o80, o87, o88, o89, rfl⟩ J4 hJ4
 by_cases hm1 : m < FBy.length
 ·have c2 := SRd.at_ hrB' hm1
  have htm : ((FBy.take (m + 1)).any fun t => decide (s = t)) = (((FBy.take m).any fun t => decide (s = t)) || decide (s = FBy[m]!)) := by
   rw [List.take_succ_eq_append_getElem hm1, List.any_append, getElem!_pos FBy m hm1]; simp
  generalize hc2 : (c0 || (FBy.take m).any fun t => decide (s = t)) = c2v at *
  generalize FBy[m]! = t at *
  have hfin : (c0 || (FBy.take (m + 1)).any fun t => decide (s = t)) = (c2v || decide (s = t)) := by rw [htm, ← hc2, Bool.or_assoc]
  cases hcc : c2v with
  | true =>
   rw [hcc] at o13 hfin
   rw [Bool.true_or] at hfin
   repeat' (first | (exfalso; omega) | refine zn ?_ | refine zK rfl ?_ | refine zP rfl ?_ | ((first | refine zm ?_ | skip); intro _; intros; simp (disch := first | exact zd | fail) only [↓yS, yT, gresults, gone, ↓reduceIte, Nat.reduceEqDiff, Nat.reduceAdd, Nat.reduceMul, reduceCtorEq, Int.reduceToNat, g8, o0, o3, o4, o9, o10, o11, o13, o15, o50, o51, o52, o57, o58, o59, o78, o79, o80, o87, o88, o89, hsB.ia, c2]; first | (rename_i K k; (first | refine yC (k _ _ ?_) | refine zg (k _ ?_)); clear k K) | (rename_i A B C D a b c d; (first | refine zx (a ?_) | refine zy (b ?_) | refine zz (fun hc => c ?_) (fun hc => d ?_) | refine zv (b ?_) | refine zw (a ?_)) <;> clear a b c d A B C D <;> try simp only [yL] at hc)) | refine zA ?_ | refine zB ?_ | refine zF ?_)
   refine hJ4 _ _ ⟨FBy.length - (m + 1), by omega, m + 1, rfl, by omega, ?_⟩
   rw [hfin]
   simp only [↓yG, Nat.reduceEqDiff, ↓reduceIte, Int.natCast_add, Int.cast_ofNat_Int, Int.natCast_zero, true_and, and_true, Option.some.injEq, Value.int.injEq, o0, o3, o4, o9, o10, o11, o13, o15, o50, o51, o52, o57, o58, o59, o78, o79, o80, o87, o88, o89]
  | false =>
   rw [hcc] at o13 hfin
   rw [Bool.false_or] at hfin
   repeat' (first | (exfalso; omega) | refine zn ?_ | refine zK rfl ?_ | refine zP rfl ?_ | ((first | refine zm ?_ | skip); intro _; intros; simp (disch := first | exact zd | fail) only [↓yS, yT, gresults, gone, ↓reduceIte, Nat.reduceEqDiff, Nat.reduceAdd, Nat.reduceMul, reduceCtorEq, Int.reduceToNat, g8, o0, o3, o4, o9, o10, o11, o13, o15, o50, o51, o52, o57, o58, o59, o78, o79, o80, o87, o88, o89, hsB.ia, c2, gb_eqlB]; first | (rename_i K k; (first | refine yC (k _ _ ?_) | refine zg (k _ ?_)); clear k K) | (rename_i A B C D a b c d; (first | refine zx (a ?_) | refine zy (b ?_) | refine zz (fun hc => c ?_) (fun hc => d ?_) | refine zv (b ?_) | refine zw (a ?_)) <;> clear a b c d A B C D <;> try simp only [yL] at hc)) | refine zA ?_ | refine zB ?_ | refine zF ?_)
   refine hJ4 _ _ ⟨FBy.length - (m + 1), by omega, m + 1, rfl, by omega, ?_⟩
   rw [hfin]
   simp only [↓yG, Nat.reduceEqDiff, ↓reduceIte, Int.natCast_add, Int.cast_ofNat_Int, Int.natCast_zero, true_and, and_true, Option.some.injEq, Value.int.injEq, o0, o3, o4, o9, o10, o11, o13, o15, o50, o51, o52, o57, o58, o59, o78, o79, o80, o87, o88, o89]
 ·obtain rfl : m = FBy.length := by omega
  rw [List.take_length] at o13
  repeat' (first | (exfalso; omega) | refine zn ?_ | refine zK rfl ?_ | refine zP rfl ?_ | ((first | refine zm ?_ | skip); intro _; intros; simp (disch := first | exact zd | fail) only [↓yS, yT, gresults, gone, ↓reduceIte, Nat.reduceEqDiff, Nat.reduceAdd, Nat.reduceMul, reduceCtorEq, Int.reduceToNat, g8, o0, o3, o4, o9, o10, o11, o13, o15, o50, o51, o52, o57, o58, o59, o78, o79, o80, o87, o88, o89]; first | (rename_i K k; (first | refine yC (k _ _ ?_) | refine zg (k _ ?_)); clear k K) | (rename_i A B C D a b c d; (first | refine zx (a ?_) | refine zy (b ?_) | refine zz (fun hc => c ?_) (fun hc => d ?_) | refine zv (b ?_) | refine zw (a ?_)) <;> clear a b c d A B C D <;> try simp only [yL] at hc)) | refine zA ?_ | refine zB ?_ | refine zF ?_)
  refine hJ3 _ _ ⟨FA.length - (p + 1), by omega, p + 1, rfl, by omega, ?_⟩
  rw [hts]
  simp only [↓yG, Nat.reduceEqDiff, ↓reduceIte, Int.natCast_add, Int.cast_ofNat_Int, Int.natCast_zero, true_and, and_true, Option.some.injEq, Value.int.injEq, o0, o3, o4, o9, o10, o11, o13, o15, o50, o51, o52, o57, o58, o59, o78, o79, o80]
end Go.Gh
