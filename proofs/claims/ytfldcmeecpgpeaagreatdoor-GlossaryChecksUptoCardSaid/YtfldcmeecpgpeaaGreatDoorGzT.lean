/-
 glossary and its reference, walked: Text.
-/
import Derived.Test.YtfldcmeecpgpeaaGreatDoorGzX
import Derived.Test.YtfldcmeecpgpeaaGreatDoorGlWC
namespace Go.Gh
set_option linter.unusedSimpArgs false
set_option linter.unusedVariables false
set_option maxHeartbeats 4000000
open Go.RowKit Go.Lib
set_option maxRecDepth 4000
def termB : List UInt8 := [84, 69, 82, 77]
def tmL (x : Tm) : List Fd := ⟨termB, 0, false⟩ :: ⟨x.s, 0, true⟩ :: x.g.map fun t => ⟨t, 0, true⟩
def tgB (g : List (List UInt8)) : List UInt8 := g.flatMap fun t => 32 :: quoF t
def tline (x : Tm) : List UInt8 := termB ++ (32 :: quoF x.s) ++ tgB x.g
theorem wf1_q (t : List UInt8) (c : Nat) : wf1 ⟨t, c, true⟩ = quoF t := by
 unfold wf1
 split
 ·rw [if_pos (.inl rfl)]
 ·rfl
theorem wf1_term : wf1 ⟨termB, 0, false⟩ = termB := by decide
theorem tmL_len (x : Tm) : (tmL x).length = x.g.length + 2 := by simp [tmL]
theorem tmL_at {x : Tm} {k : Nat} (h : k < x.g.length) : (tmL x)[k + 2]! = ⟨x.g[k]!, 0, true⟩ := by
 rw [getElem!_pos (tmL x) (k + 2) (by rw [tmL_len]; omega)]
 simp only [tmL, List.getElem_cons_succ, List.getElem_map]
 rw [getElem!_pos x.g k h]
theorem tgB_succ {g : List (List UInt8)} {k : Nat} (h : k < g.length) : tgB (g.take (k + 1)) = tgB (g.take k) ++ (32 :: quoF g[k]!) := by
 unfold tgB
 rw [List.take_succ_eq_append_getElem h, List.flatMap_append, getElem!_pos g k h]; simp
theorem wrL_tmk (x : Tm) : ∀ k, k ≤ x.g.length → wrL (tmL x) (k + 2) = termB ++ (32 :: quoF x.s) ++ tgB (x.g.take k)
 | 0, _ => by
  rw [wrL_succ, wrL_succ]
  have h1 : (tmL x)[0]! = ⟨termB, 0, false⟩ := rfl
  have h2 : (tmL x)[1]! = ⟨x.s, 0, true⟩ := rfl
  rw [h1, h2, wf1_q, wf1_term]
  simp [wrL, tgB]
 | k + 1, h => by
  rw [wrL_succ, wrL_tmk x k (by omega), tmL_at (by omega), wf1_q, tgB_succ (by omega), if_pos (by omega)]
  simp
theorem wrL_tm (x : Tm) : wrL (tmL x) (tmL x).length = tline x := by
 rw [tmL_len, wrL_tmk x _ (Nat.le_refl _), List.take_length]; rfl
def txtO (l : List Tm) (n : Nat) : List UInt8 := (l.take n).flatMap fun x => tline x ++ [10]
theorem txtO_succ {l : List Tm} {n : Nat} (h : n < l.length) : txtO l (n + 1) = txtO l n ++ (tline l[n]! ++ [10]) := by
 unfold txtO
 rw [List.take_succ_eq_append_getElem h, List.flatMap_append, getElem!_pos l n h]; simp
def txtB (l : List Tm) (n : Nat) : Bool := (l.take n).any fun x => decide (1000 < (tline x).length)
theorem txtB_succ {l : List Tm} {n : Nat} (h : n < l.length) : txtB l (n + 1) = (txtB l n || decide (1000 < (tline l[n]!).length)) := by
 unfold txtB
 rw [List.take_succ_eq_append_getElem h, List.any_append, getElem!_pos l n h]; simp
theorem txtB_all {l : List Tm} {n : Nat} (h : n < l.length) (hb : 1000 < (tline l[n]!).length) : txtB l l.length = true := by
 unfold txtB
 rw [List.take_length, List.any_eq_true]
 exact ⟨_, bang_mem h, decide_eq_true hb⟩
def txtF (l : List Tm) : List UInt8 × Nat := if chkF l ≠ 0 then ([], chkF l) else if txtB l l.length = true then ([], 9) else if 262144 < (txtO l l.length).length then ([], 9) else (txtO l l.length, 0)
theorem fstN_zero {f : Nat → Nat} {n : Nat} (h : fstN f n = 0) : ∀ j, j < n → f j = 0 := fun j hj => by
 unfold fstN at h
 split at h
 ·rename_i i hi
  have := List.find?_some hi
  simp only [bne_iff_ne, ne_eq] at this
  exact absurd h this
 ·rename_i hn
  rw [List.find?_eq_none] at hn
  have := hn j (List.mem_range.2 hj)
  simpa using this
structure TmOk (x : Tm) : Prop where
 s : phrB x.s = true
 n : 1 ≤ x.g.length ∧ x.g.length ≤ 8
 g : ∀ t ∈ x.g, phrB t = true
theorem phr_len {l : List UInt8} (h : phrB l = true) : l.length ≤ 400 := by
 unfold phrB at h
 simp only [Bool.and_eq_true, decide_eq_true_eq] at h
 exact h.2
theorem chk_ok {l : List Tm} (h : chkF l = 0) : l.length ≤ 64 ∧ ∀ x ∈ l, TmOk x := by
 unfold chkF at h
 split at h
 ·cases h
 ·rename_i h64
  refine ⟨by omega, fun x hx => ?_⟩
  obtain ⟨i, hi, rfl⟩ := List.mem_iff_getElem.1 hx
  have h1 := fstN_zero h i hi
  rw [← getElem!_pos l i hi]
  unfold chkT at h1
  split at h1
  ·cases h1
  ·rename_i hp
   split at h1
   ·cases h1
   ·split at h1
    ·cases h1
    ·rename_i hn
     refine ⟨by simpa using hp, by omega, fun t ht => ?_⟩
     obtain ⟨k, hk, rfl⟩ := List.mem_iff_getElem.1 ht
     have h2 := fstN_zero h1 k hk
     rw [← getElem!_pos _ k hk]
     unfold chkG at h2
     split at h2
     ·cases h2
     ·rename_i hq; simpa using hq
theorem TmOk.len {x : Tm} (h : TmOk x) : (tline x).length ≤ 8000 := by
 have h1 := quoF_len x.s
 have h2 := phr_len h.s
 have h3 : ∀ g : List (List UInt8), (∀ t ∈ g, phrB t = true) → (tgB g).length ≤ g.length * 803 := fun g => by
  induction g with
  | nil => intro _; simp [tgB]
  | cons t g ih =>
   intro hg
   have h4 := ih fun t ht => hg t (by simp [ht])
   have h5 := quoF_len t
   have h6 := phr_len (hg t (by simp))
   simp only [tgB, List.flatMap_cons, List.length_append, List.length_cons] at h4 ⊢
   omega
 have h7 := h3 x.g h.g
 have h8 := h.n
 simp only [tline, List.length_append, List.length_cons, termB, List.length_nil]
 omega
theorem txtO_len {l : List Tm} (h : ∀ x ∈ l, TmOk x) : ∀ n, n ≤ l.length → (txtO l n).length ≤ n * 8001
 | 0, _ => by simp [txtO]
 | n + 1, hn => by
  have h1 := txtO_len h n (by omega)
  have h2 := (h _ (bang_mem (show n < l.length by omega))).len
  rw [txtO_succ (by omega)]
  simp only [List.length_append, List.length_cons, List.length_nil]
  omega
theorem isSl1 {i n c : Nat} : IsSl (.slice (some ⟨i, 0, none⟩) n c) n := ⟨_, _, rfl, fun _ => ⟨_, _, rfl⟩⟩
theorem build_ln1 {x : Value} (h : flatV x = true) : fillL [.int .i64 0, .slice none 0 0] [(1, 1, x)] = some [.int .i64 0, x] := by
 rw [fillL_set _ _ (by simp [h, flatV_int])]; rfl
set_option maxHeartbeats 2000000 in
theorem Text_ok {H : GHeap} (hw : H.wf) {v : Value} {l : List Tm} (hv : TR H v l) : ∃ r H', gev G 9 [v] H = some (r, H') ∧ (r = .tuple #[.string (strB (txtF l).1), .int .i64 (txtF l).2] ∧ Same H H') := by
 refine gev_GW (f := 9) rfl fun Post hPost => ?_
 simp only [frameOf, Nat.reduceAdd]
 repeat' (first | (exfalso; omega) | refine zn ?_ | refine zK rfl ?_ | refine zP rfl ?_ | ((first | refine zm ?_ | skip); intro _; intros; simp (disch := first | exact zd | fail) only [↓yS, yT, gresults, gone, ↓reduceIte, Nat.reduceEqDiff, Nat.reduceAdd, Nat.reduceMul, reduceCtorEq, Int.reduceToNat, g9]; first | (rename_i K k; (first | refine yC (k _ _ ?_) | refine zg (k _ ?_)); clear k K) | (rename_i A B C D a b c d; (first | refine zx (a ?_) | refine zy (b ?_) | refine zz (fun hc => c ?_) (fun hc => d ?_) | refine zv (b ?_) | refine zw (a ?_)) <;> clear a b c d A B C D <;> try simp only [yL] at hc)) | refine zA ?_ | refine zB ?_ | refine zF ?_)
 refine Gw_s fun K' hK' => G1_call (by simp only [gtarget, ↓GArg.ev, ↓evs, ↓Tr.get_set, Nat.reduceEqDiff, if_true, if_false, ↓reduceIte, Option.map_some]; rfl) (Check_ok hw hv) fun r1 H1 hq => hK' _ _ ?_
 obtain ⟨rfl, hS1⟩ := hq
 by_cases hc : chkF l = 0
 case neg =>
  have hT : txtF l = ([], chkF l) := if_pos hc
  rw [hT] at hPost
  have hz : ¬ ((chkF l : Nat) : Int) = 0 := by omega
  generalize chkF l = e at *
  repeat' (first | (exfalso; omega) | refine zn ?_ | refine zK rfl ?_ | refine zP rfl ?_ | ((first | refine zm ?_ | skip); intro _; intros; simp (disch := first | exact zd | fail) only [↓yS, yT, gresults, gone, ↓reduceIte, Nat.reduceEqDiff, Nat.reduceAdd, Nat.reduceMul, reduceCtorEq, Int.reduceToNat, g9]; first | (rename_i K k; (first | refine yC (k _ _ ?_) | refine zg (k _ ?_)); clear k K) | (rename_i A B C D a b c d; (first | refine zx (a ?_) | refine zy (b ?_) | refine zz (fun hc => c ?_) (fun hc => d ?_) | refine zv (b ?_) | refine zw (a ?_)) <;> clear a b c d A B C D <;> try simp only [yL] at hc)) | refine zA ?_ | refine zB ?_ | refine zF ?_)
  exact hPost _ _ ⟨rfl, hS1⟩
 obtain ⟨h64, hok⟩ := chk_ok hc
 have hT : txtF l = if txtB l l.length = true then ([], 9) else if 262144 < (txtO l l.length).length then ([], 9) else (txtO l l.length, 0) := if_neg (fun h => h hc)
 have hz : ((chkF l : Nat) : Int) = 0 := by omega
 rw [hz]
 have hw1 := hS1.wf
 have hv1 := hv.later hw hS1
 have hsl := hv1.isSl
 repeat' (first | (exfalso; omega) | refine zn ?_ | refine zK rfl ?_ | refine zP rfl ?_ | ((first | refine zm ?_ | skip); intro _; intros; simp (disch := first | exact zd | fail) only [↓yS, yT, gresults, gone, ↓reduceIte, Nat.reduceEqDiff, Nat.reduceAdd, Nat.reduceMul, reduceCtorEq, Int.reduceToNat, g9, hsl.len]; first | (rename_i K k; (first | refine yC (k _ _ ?_) | refine zg (k _ ?_)); clear k K) | (rename_i A B C D a b c d; (first | refine zx (a ?_) | refine zy (b ?_) | refine zz (fun hc => c ?_) (fun hc => d ?_) | refine zv (b ?_) | refine zw (a ?_)) <;> clear a b c d A B C D <;> try simp only [yL] at hc)) | refine zA ?_ | refine zB ?_ | refine zF ?_)
 refine GW_loop (fun k fr H2 => ∃ (j : Nat), k = l.length - j ∧ j ≤ l.length ∧ fr.get 5 = some (.string (strB (txtO l j))) ∧ fr.get 17 = some (v) ∧ fr.get 18 = some (.int .i64 l.length) ∧ fr.get 19 = some (.int .i64 j) ∧ Same H1 H2 ∧ txtB l j = false) ?_ l.length ?_
 rotate_left
 ·refine ⟨0, by omega, by omega, ?_⟩
  simp only [↓yG, Nat.reduceEqDiff, ↓reduceIte, Int.natCast_add, Int.cast_ofNat_Int, Int.natCast_zero, true_and, and_true, Option.some.injEq, Value.int.injEq]
  exact ⟨rfl, Same.refl hw1, rfl⟩
 rintro k fr H2 ⟨j, rfl, hj, f5, f17, f18, f19, hS2, hbf⟩ J hJ
 have hw2 := hS2.wf
 have hlim2 := hw2.1
 have hol := txtO_len hok j hj
 by_cases hj1 : j < l.length
 case neg =>
  obtain rfl : j = l.length := by omega
  rw [if_neg (by rw [hbf]; decide)] at hT
  have hls := strB_size (txtO l l.length)
  by_cases hbig : 262144 < (txtO l l.length).length
  ·rw [if_pos hbig] at hT
   rw [hT] at hPost
   repeat' (first | (exfalso; omega) | refine zn ?_ | refine zK rfl ?_ | refine zP rfl ?_ | ((first | refine zm ?_ | skip); intro _; intros; simp (disch := first | exact zd | fail) only [↓yS, yT, gresults, gone, ↓reduceIte, Nat.reduceEqDiff, Nat.reduceAdd, Nat.reduceMul, reduceCtorEq, Int.reduceToNat, g9, f5, f17, f18, f19, hls]; first | (rename_i K k; (first | refine yC (k _ _ ?_) | refine zg (k _ ?_)); clear k K) | (rename_i A B C D a b c d; (first | refine zx (a ?_) | refine zy (b ?_) | refine zz (fun hc => c ?_) (fun hc => d ?_) | refine zv (b ?_) | refine zw (a ?_)) <;> clear a b c d A B C D <;> try simp only [yL] at hc)) | refine zA ?_ | refine zB ?_ | refine zF ?_)
   exact hPost _ _ ⟨rfl, hS1.trans hS2⟩
  ·rw [if_neg hbig] at hT
   rw [hT] at hPost
   repeat' (first | (exfalso; omega) | refine zn ?_ | refine zK rfl ?_ | refine zP rfl ?_ | ((first | refine zm ?_ | skip); intro _; intros; simp (disch := first | exact zd | fail) only [↓yS, yT, gresults, gone, ↓reduceIte, Nat.reduceEqDiff, Nat.reduceAdd, Nat.reduceMul, reduceCtorEq, Int.reduceToNat, g9, f5, f17, f18, f19, hls]; first | (rename_i K k; (first | refine yC (k _ _ ?_) | refine zg (k _ ?_)); clear k K) | (rename_i A B C D a b c d; (first | refine zx (a ?_) | refine zy (b ?_) | refine zz (fun hc => c ?_) (fun hc => d ?_) | refine zv (b ?_) | refine zw (a ?_)) <;> clear a b c d A B C D <;> try simp only [yL] at hc)) | refine zA ?_ | refine zB ?_ | refine zF ?_)
   exact hPost _ _ ⟨rfl, hS1.trans hS2⟩
 have hxm := bang_mem hj1
 have hx := hok _ hxm
 have e1 := (hv1.later hw1 hS2).rowN hj1
 have htg := (hv1.later hw1 hS2).tg _ hxm
 have hos := txtO_succ hj1
 have hbs := txtB_succ hj1
 have hall := txtB_all hj1
 generalize l[j]! = x at *
 have hxl := hx.len
 have hxn := hx.n
 unfold tmV at e1
 have hgt := gsetn_tm (cs := [.string ⟨#[]⟩, .slice none 0 0]) (x := x) rfl htg.flat
 unfold tmV at hgt
 have hsg := htg.rd.isSl
 have td0 : (tmC x)[0]? = some (.string (strB x.s)) := rfl
 have td1 : (tmC x)[1]? = some x.v := rfl
 have hf2 : fillL (zeros [.string ⟨#[]⟩, .int .i64 0, .bool false] 2) [(0, 3, .agg #[.string ⟨#[84, 69, 82, 77]⟩, .int .i64 0, .bool false]), (3, 3, .agg #[.string (strB x.s), .int .i64 0, .bool true])] = some (FdC [⟨termB, 0, false⟩, ⟨x.s, 0, true⟩]) := by
  simp [fillL, zeros, Value.cells, flatV, FdC, fdC, termB]; rfl
 have hSA : Same H2 ((H2.add (some (.cells [.string ⟨#[]⟩, .slice none 0 0] 0 true))).put H2.len (.cells (tmC x) 0 true)) := (Same.refl hw2).new _ _
 have hSB := hSA.add (.cells (FdC [⟨termB, 0, false⟩, ⟨x.s, 0, true⟩]) 3 true)
 have hlA : ((H2.add (some (.cells [.string ⟨#[]⟩, .slice none 0 0] 0 true))).put H2.len (.cells (tmC x) 0 true)).len = H2.len + 1 := by simp only [len_put, len_add]
 have hO0 : OS 3 3 H2 (((H2.add (some (.cells [.string ⟨#[]⟩, .slice none 0 0] 0 true))).put H2.len (.cells (tmC x) 0 true)).add (some (.cells (FdC [⟨termB, 0, false⟩, ⟨x.s, 0, true⟩]) 3 true))) (.slice (some ⟨H2.len + 1, 0, none⟩) 2 3) 2 (FdC [⟨termB, 0, false⟩, ⟨x.s, 0, true⟩]) := by
  have := OS.made' (s := 3) (u := 3) (n := 2) (cs := FdC [⟨termB, 0, false⟩, ⟨x.s, 0, true⟩]) hSA rfl
  rw [hlA] at this; exact this
 repeat' (first | (exfalso; omega) | refine zn ?_ | refine zK rfl ?_ | refine zP rfl ?_ | ((first | refine zm ?_ | skip); intro _; intros; simp (disch := first | exact zd | fail) only [↓yS, yT, gresults, gone, ↓reduceIte, Nat.reduceEqDiff, Nat.reduceAdd, Nat.reduceMul, reduceCtorEq, Int.reduceToNat, g9, f5, f17, f18, f19, hsl.ia, e1, hgt, td0, td1, hf2, hsg.len]; first | (rename_i K k; (first | refine yC (k _ _ ?_) | refine zg (k _ ?_)); clear k K) | (rename_i A B C D a b c d; (first | refine zx (a ?_) | refine zy (b ?_) | refine zz (fun hc => c ?_) (fun hc => d ?_) | refine zv (b ?_) | refine zw (a ?_)) <;> clear a b c d A B C D <;> try simp only [yL] at hc)) | refine zA ?_ | refine zB ?_ | refine zF ?_)
 generalize (((H2.add (some (.cells [.string ⟨#[]⟩, .slice none 0 0] 0 true))).put H2.len (.cells (tmC x) 0 true)).add (some (.cells (FdC [⟨termB, 0, false⟩, ⟨x.s, 0, true⟩]) 3 true))) = H3 at *
 have htk : ∀ k, k ≤ x.g.length → FdC ((tmL x).take (k + 2)) = FdC [⟨termB, 0, false⟩, ⟨x.s, 0, true⟩] ++ FdC ((x.g.take k).map fun t => ⟨t, 0, true⟩) := fun k hk => by
  simp [tmL, FdC, List.map_take]
 refine GW_loop (fun k fr H4 => ∃ (k' : Nat) (fv : Value), k = x.g.length - k' ∧ k' ≤ x.g.length ∧ fr.get 5 = some (.string (strB (txtO l j))) ∧ fr.get 8 = some (fv) ∧ fr.get 17 = some (v) ∧ fr.get 18 = some (.int .i64 l.length) ∧ fr.get 19 = some (.int .i64 j) ∧ fr.get 29 = some (x.v) ∧ fr.get 30 = some (.int .i64 x.g.length) ∧ fr.get 31 = some (.int .i64 k') ∧ OS 3 3 H2 H4 fv (2 + k') (FdC [⟨termB, 0, false⟩, ⟨x.s, 0, true⟩] ++ FdC ((x.g.take k').map fun t => ⟨t, 0, true⟩))) ?_ x.g.length ?_
 rotate_left
 ·refine ⟨0, .slice (some ⟨H2.len + 1, 0, none⟩) 2 3, by omega, by omega, ?_⟩
  simp only [↓yG, Nat.reduceEqDiff, ↓reduceIte, Int.natCast_add, Int.cast_ofNat_Int, Int.natCast_zero, true_and, and_true, Option.some.injEq, Value.int.injEq, f5, f17, f18, f19]
  simpa [FdC] using hO0
 rintro k fr H4 ⟨i, fv, rfl, hi, i5, i8, i17, i18, i19, i29, i30, i31, hO⟩ J2 hJ2
 have hS4 := hO.same
 have hw4 := hS4.wf
 by_cases hi1 : i < x.g.length
 ·have c1 := SRd.at_ (GArg1.same htg hw2 hS4) hi1
  have hff : ∀ t, fillL (zeros [.string ⟨#[]⟩, .int .i64 0, .bool false] 1) [(0, 3, .agg #[.string (strB t), .int .i64 0, .bool true])] = some (fdC ⟨t, 0, true⟩) := fun t => fill_fd (f := ⟨t, 0, true⟩)
  have hti : FdC ((x.g.take (i + 1)).map fun t => (⟨t, 0, true⟩ : Fd)) = FdC ((x.g.take i).map fun t => (⟨t, 0, true⟩ : Fd)) ++ fdC ⟨x.g[i]!, 0, true⟩ := by
   rw [List.take_succ_eq_append_getElem hi1, List.map_append, getElem!_pos x.g i hi1]
   simp [FdC]
  generalize x.g[i]! = t at *
  repeat' (first | (exfalso; omega) | refine zn ?_ | refine zK rfl ?_ | refine zP rfl ?_ | ((first | refine zm ?_ | skip); intro _; intros; simp (disch := first | exact zd | fail) only [↓yS, yT, gresults, gone, ↓reduceIte, Nat.reduceEqDiff, Nat.reduceAdd, Nat.reduceMul, reduceCtorEq, Int.reduceToNat, g9, i5, i8, i17, i18, i19, i29, i30, i31, hsg.ia, c1, hff]; first | (rename_i K k; (first | refine yC (k _ _ ?_) | refine zg (k _ ?_)); clear k K) | (rename_i A B C D a b c d; (first | refine zx (a ?_) | refine zy (b ?_) | refine zz (fun hc => c ?_) (fun hc => d ?_) | refine zv (b ?_) | refine zw (a ?_)) <;> clear a b c d A B C D <;> try simp only [yL] at hc)) | refine zA ?_ | refine zB ?_ | refine zF ?_)
  refine Gw_s fun K' hK' => ?_
  simp (disch := first | exact zd | fail) only [↓yS, yT, ↓reduceIte, Nat.reduceEqDiff, Nat.reduceAdd, Nat.reduceMul, reduceCtorEq, Int.reduceToNat, i5, i8, i17, i18, i19, i29, i30, i31]
  obtain ⟨v5, H5, e, hO5, hB5⟩ := hO.app1 (b := 32) (by decide) (by decide) (news := fdC ⟨t, 0, true⟩) rfl (by omega) (by omega)
  refine G1_eq e (hK' _ _ ?_)
  clear hK' K' e
  repeat' (first | (exfalso; omega) | refine zn ?_ | refine zK rfl ?_ | refine zP rfl ?_ | ((first | refine zm ?_ | skip); intro _; intros; simp (disch := first | exact zd | fail) only [↓yS, yT, gresults, gone, ↓reduceIte, Nat.reduceEqDiff, Nat.reduceAdd, Nat.reduceMul, reduceCtorEq, Int.reduceToNat, g9, i5, i8, i17, i18, i19, i29, i30, i31]; first | (rename_i K k; (first | refine yC (k _ _ ?_) | refine zg (k _ ?_)); clear k K) | (rename_i A B C D a b c d; (first | refine zx (a ?_) | refine zy (b ?_) | refine zz (fun hc => c ?_) (fun hc => d ?_) | refine zv (b ?_) | refine zw (a ?_)) <;> clear a b c d A B C D <;> try simp only [yL] at hc)) | refine zA ?_ | refine zB ?_ | refine zF ?_)
  refine hJ2 _ _ ⟨x.g.length - (i + 1), by omega, i + 1, v5, rfl, by omega, ?_⟩
  simp only [↓yG, Nat.reduceEqDiff, ↓reduceIte, Int.natCast_add, Int.cast_ofNat_Int, Int.natCast_zero, true_and, and_true, Option.some.injEq, Value.int.injEq, i5, i8, i17, i18, i19, i29, i30, i31]
  rw [hti, ← List.append_assoc]
  exact hO5
 obtain rfl : i = x.g.length := by omega
 have hFv : FRd H4 fv (tmL x) := by
  have h1 := hO.arg
  have h2 := htk x.g.length (Nat.le_refl _)
  rw [← h2] at h1
  have h3 : (tmL x).take (x.g.length + 2) = tmL x := List.take_of_length_le (by rw [tmL_len]; omega)
  rw [h3] at h1
  have h4 : 2 + x.g.length = (tmL x).length := by rw [tmL_len]; omega
  rw [h4] at h1
  exact h1
 have hvf := hO.flat
 have hb1 := build_ln1 hvf
 have hb2 := fill_lnv (k := 0) hvf
 have hSn := (Same.refl hw4).add (.cells [.int .i64 0, fv] 2 true)
 repeat' (first | (exfalso; omega) | refine zn ?_ | refine zK rfl ?_ | refine zP rfl ?_ | ((first | refine zm ?_ | skip); intro _; intros; simp (disch := first | exact zd | fail) only [↓yS, yT, gresults, gone, ↓reduceIte, Nat.reduceEqDiff, Nat.reduceAdd, Nat.reduceMul, reduceCtorEq, Int.reduceToNat, g9, i5, i8, i17, i18, i19, i29, i30, i31, hb1, hb2]; first | (rename_i K k; (first | refine yC (k _ _ ?_) | refine zg (k _ ?_)); clear k K) | (rename_i A B C D a b c d; (first | refine zx (a ?_) | refine zy (b ?_) | refine zz (fun hc => c ?_) (fun hc => d ?_) | refine zv (b ?_) | refine zw (a ?_)) <;> clear a b c d A B C D <;> try simp only [yL] at hc)) | refine zA ?_ | refine zB ?_ | refine zF ?_)
 have hrn : (H4.add (some (.cells [.int .i64 0, fv] 2 true))).rdn H4.len 0 2 = some (.agg #[.int .i64 0, fv]) := by
  unfold GHeap.rdn
  rw [cs_add_eq rfl]; rfl
 have htL : ∀ f ∈ tmL x, f.t.length ≤ 1048576 := fun f hf => by
  simp only [tmL, List.mem_cons, List.mem_map] at hf
  rcases hf with rfl | rfl | ⟨t, ht, rfl⟩
  ·simp [termB]
  ·have := phr_len hx.s; simp only; omega
  ·have := phr_len (hx.g t ht); simp only; omega
 have hll := tmL_len x
 refine Gw_s fun K' hK' => G1_call (by simp only [gtarget, ↓GArg.ev, ↓evs, ↓Tr.get_set, Nat.reduceEqDiff, if_true, if_false, ↓reduceIte, Option.map_some, i5, i8, i17, i18, i19, i29, i30, i31]; rfl) (Write_ok hSn.wf (v := .slice (some ⟨H4.len, 0, none⟩) 1 2) (n := 0) isSl1 hrn (by simp only [blk, len_add]; omega) (GArg1.same hFv hw4 hSn) (by omega) (by simp [tmL]) htL) fun r9 H9 hq9 => hK' _ _ ?_
 obtain ⟨rfl, hS9⟩ := hq9
 rw [wrL_tm]
 have hS29 := (hS4.trans hSn).trans hS9
 have hls : (strB (tline x ++ [10])).size = (tline x).length + 1 := by rw [strB_size]; simp
 have hap : ∀ e, gbin .add e (.string (strB (txtO l j))) (.string (strB (tline x ++ [10]))) = some (.string (strB (txtO l j ++ (tline x ++ [10])))) := fun e => gb_addB (by simp only [List.length_append, List.length_cons, List.length_nil]; omega)
 by_cases hbig : 1000 < (tline x).length
 ·rw [if_pos (hall hbig)] at hT
  rw [hT] at hPost
  repeat' (first | (exfalso; omega) | refine zn ?_ | refine zK rfl ?_ | refine zP rfl ?_ | ((first | refine zm ?_ | skip); intro _; intros; simp (disch := first | exact zd | fail) only [↓yS, yT, gresults, gone, ↓reduceIte, Nat.reduceEqDiff, Nat.reduceAdd, Nat.reduceMul, reduceCtorEq, Int.reduceToNat, g9, i5, i8, i17, i18, i19, i29, i30, i31, hls]; first | (rename_i K k; (first | refine yC (k _ _ ?_) | refine zg (k _ ?_)); clear k K) | (rename_i A B C D a b c d; (first | refine zx (a ?_) | refine zy (b ?_) | refine zz (fun hc => c ?_) (fun hc => d ?_) | refine zv (b ?_) | refine zw (a ?_)) <;> clear a b c d A B C D <;> try simp only [yL] at hc)) | refine zA ?_ | refine zB ?_ | refine zF ?_)
  exact hPost _ _ ⟨rfl, hS1.trans (hS2.trans hS29)⟩
 ·repeat' (first | (exfalso; omega) | refine zn ?_ | refine zK rfl ?_ | refine zP rfl ?_ | ((first | refine zm ?_ | skip); intro _; intros; simp (disch := first | exact zd | fail) only [↓yS, yT, gresults, gone, ↓reduceIte, Nat.reduceEqDiff, Nat.reduceAdd, Nat.reduceMul, reduceCtorEq, Int.reduceToNat, g9, i5, i8, i17, i18, i19, i29, i30, i31, hls, hap]; first | (rename_i K k; (first | refine yC (k _ _ ?_) | refine zg (k _ ?_)); clear k K) | (rename_i A B C D a b c d; (first | refine zx (a ?_) | refine zy (b ?_) | refine zz (fun hc => c ?_) (fun hc => d ?_) | refine zv (b ?_) | refine zw (a ?_)) <;> clear a b c d A B C D <;> try simp only [yL] at hc)) | refine zA ?_ | refine zB ?_ | refine zF ?_)
  refine hJ _ _ ⟨l.length - (j + 1), by omega, j + 1, rfl, by omega, ?_⟩
  simp only [↓yG, Nat.reduceEqDiff, ↓reduceIte, Int.natCast_add, Int.cast_ofNat_Int, Int.natCast_zero, true_and, and_true, Option.some.injEq, Value.int.injEq, i5, i8, i17, i18, i19, i29, i30, i31]
  refine ⟨by rw [hos], hS2.trans hS29, ?_⟩
  rw [hbs, hbf, decide_eq_false hbig]; rfl
theorem fitR_line {w r : List UInt8} (hw : 10 ∉ w) : ∀ n, n ≤ 1000 → fitR n (w ++ 10 :: r) = (decide (n + w.length ≤ 1000) && fitR 0 r) := by
 induction w with
 | nil =>
  intro n hn
  rw [List.nil_append, fitR, if_pos rfl]
  simp [hn]
 | cons b w ih =>
  intro n hn
  have hb : ¬ b = 10 := fun e => hw (by simp [e])
  rw [List.cons_append, fitR, if_neg hb]
  by_cases h : 1000 < n + 1
  ·rw [if_pos h, decide_eq_false (by simp only [List.length_cons]; omega), Bool.false_and]
  ·rw [if_neg h, ih (fun hm => hw (by simp [hm])) (n + 1) (by omega)]
   congr 1
   simp only [List.length_cons]
   apply decide_eq_decide.2; omega
theorem qt1_10 (b : UInt8) : 10 ∉ qt1 b := by
 unfold qt1
 repeat' split
 ·rename_i h; rcases h with rfl | rfl <;> decide
 ·decide
 ·rename_i h; simp; exact fun e => h e.symm
theorem quoF_10 (l : List UInt8) : 10 ∉ quoF l := by
 unfold quoF qtB
 simp only [List.mem_append, List.mem_cons, List.mem_flatMap, List.not_mem_nil, or_false, not_or, not_exists, not_and]
 exact ⟨⟨by decide, fun b _ => qt1_10 b⟩, by decide⟩
theorem tline_10 (x : Tm) : 10 ∉ tline x := by
 unfold tline tgB
 simp only [List.mem_append, List.mem_cons, List.mem_flatMap, not_or, not_exists, not_and]
 exact ⟨⟨by decide, by decide, quoF_10 _⟩, fun t _ => ⟨by decide, quoF_10 t⟩⟩
theorem fitR_txt : ∀ l : List Tm, fitR 0 (l.flatMap fun x => tline x ++ [10]) = !(l.any fun x => decide (1000 < (tline x).length))
 | [] => rfl
 | x :: l => by
  rw [List.flatMap_cons, List.append_assoc, List.singleton_append, fitR_line (tline_10 x) 0 (by omega), fitR_txt l, List.any_cons, Bool.not_or]
  congr 1
  rw [Nat.zero_add]
  by_cases h : (tline x).length ≤ 1000
  ·rw [decide_eq_true h, decide_eq_false (by omega)]; rfl
  ·rw [decide_eq_false h, decide_eq_true (by omega)]; rfl
theorem rText_ok {H : GHeap} (hw : H.wf) {v : Value} {l : List Tm} (hv : TR H v l) : ∃ r H', gev G 10 [v] H = some (r, H') ∧ (r = .tuple #[.string (strB (txtF l).1), .int .i64 (txtF l).2] ∧ Same H H') := by
 refine gev_GW (f := 10) rfl fun Post hPost => ?_
 simp only [frameOf, Nat.reduceAdd]
 repeat' (first | (exfalso; omega) | refine zn ?_ | refine zK rfl ?_ | refine zP rfl ?_ | ((first | refine zm ?_ | skip); intro _; intros; simp (disch := first | exact zd | fail) only [↓yS, yT, gresults, gone, ↓reduceIte, Nat.reduceEqDiff, Nat.reduceAdd, Nat.reduceMul, reduceCtorEq, Int.reduceToNat, g10]; first | (rename_i K k; (first | refine yC (k _ _ ?_) | refine zg (k _ ?_)); clear k K) | (rename_i A B C D a b c d; (first | refine zx (a ?_) | refine zy (b ?_) | refine zz (fun hc => c ?_) (fun hc => d ?_) | refine zv (b ?_) | refine zw (a ?_)) <;> clear a b c d A B C D <;> try simp only [yL] at hc)) | refine zA ?_ | refine zB ?_ | refine zF ?_)
 refine Gw_s fun K' hK' => G1_call (by simp only [gtarget, ↓GArg.ev, ↓evs, ↓Tr.get_set, Nat.reduceEqDiff, if_true, if_false, ↓reduceIte, Option.map_some]; rfl) (rCheck_ok hw hv) fun r1 H1 hq => hK' _ _ ?_
 obtain ⟨rfl, hS1⟩ := hq
 by_cases hc : chkF l = 0
 case neg =>
  have hT : txtF l = ([], chkF l) := if_pos hc
  rw [hT] at hPost
  have hz : ¬ ((chkF l : Nat) : Int) = 0 := by omega
  generalize chkF l = e at *
  repeat' (first | (exfalso; omega) | refine zn ?_ | refine zK rfl ?_ | refine zP rfl ?_ | ((first | refine zm ?_ | skip); intro _; intros; simp (disch := first | exact zd | fail) only [↓yS, yT, gresults, gone, ↓reduceIte, Nat.reduceEqDiff, Nat.reduceAdd, Nat.reduceMul, reduceCtorEq, Int.reduceToNat, g10]; first | (rename_i K k; (first | refine yC (k _ _ ?_) | refine zg (k _ ?_)); clear k K) | (rename_i A B C D a b c d; (first | refine zx (a ?_) | refine zy (b ?_) | refine zz (fun hc => c ?_) (fun hc => d ?_) | refine zv (b ?_) | refine zw (a ?_)) <;> clear a b c d A B C D <;> try simp only [yL] at hc)) | refine zA ?_ | refine zB ?_ | refine zF ?_)
  exact hPost _ _ ⟨rfl, hS1⟩
 obtain ⟨h64, hok⟩ := chk_ok hc
 have hT : txtF l = if txtB l l.length = true then ([], 9) else if 262144 < (txtO l l.length).length then ([], 9) else (txtO l l.length, 0) := if_neg (fun h => h hc)
 have hz : ((chkF l : Nat) : Int) = 0 := by omega
 rw [hz]
 have hw1 := hS1.wf
 have hv1 := hv.later hw hS1
 have hsl := hv1.isSl
 repeat' (first | (exfalso; omega) | refine zn ?_ | refine zK rfl ?_ | refine zP rfl ?_ | ((first | refine zm ?_ | skip); intro _; intros; simp (disch := first | exact zd | fail) only [↓yS, yT, gresults, gone, ↓reduceIte, Nat.reduceEqDiff, Nat.reduceAdd, Nat.reduceMul, reduceCtorEq, Int.reduceToNat, g10, hsl.len]; first | (rename_i K k; (first | refine yC (k _ _ ?_) | refine zg (k _ ?_)); clear k K) | (rename_i A B C D a b c d; (first | refine zx (a ?_) | refine zy (b ?_) | refine zz (fun hc => c ?_) (fun hc => d ?_) | refine zv (b ?_) | refine zw (a ?_)) <;> clear a b c d A B C D <;> try simp only [yL] at hc)) | refine zA ?_ | refine zB ?_ | refine zF ?_)
 refine GW_loop (fun k fr H2 => ∃ (j : Nat), k = l.length - j ∧ j ≤ l.length ∧ fr.get 5 = some (.string (strB (txtO l j))) ∧ fr.get 15 = some (v) ∧ fr.get 16 = some (.int .i64 l.length) ∧ fr.get 17 = some (.int .i64 j) ∧ Same H1 H2) ?_ l.length ?_
 rotate_left
 ·refine ⟨0, by omega, by omega, ?_⟩
  simp only [↓yG, Nat.reduceEqDiff, ↓reduceIte, Int.natCast_add, Int.cast_ofNat_Int, Int.natCast_zero, true_and, and_true, Option.some.injEq, Value.int.injEq]
  exact ⟨rfl, Same.refl hw1⟩
 rintro k fr H2 ⟨j, rfl, hj, f5, f15, f16, f17, hS2⟩ J hJ
 have hw2 := hS2.wf
 have hlim2 := hw2.1
 have hol := txtO_len hok j hj
 by_cases hj1 : j < l.length
 case neg =>
  obtain rfl : j = l.length := by omega
  repeat' (first | (exfalso; omega) | refine zn ?_ | refine zK rfl ?_ | refine zP rfl ?_ | ((first | refine zm ?_ | skip); intro _; intros; simp (disch := first | exact zd | fail) only [↓yS, yT, gresults, gone, ↓reduceIte, Nat.reduceEqDiff, Nat.reduceAdd, Nat.reduceMul, reduceCtorEq, Int.reduceToNat, g10, f5, f15, f16, f17]; first | (rename_i K k; (first | refine yC (k _ _ ?_) | refine zg (k _ ?_)); clear k K) | (rename_i A B C D a b c d; (first | refine zx (a ?_) | refine zy (b ?_) | refine zz (fun hc => c ?_) (fun hc => d ?_) | refine zv (b ?_) | refine zw (a ?_)) <;> clear a b c d A B C D <;> try simp only [yL] at hc)) | refine zA ?_ | refine zB ?_ | refine zF ?_)
  refine Gw_s fun K' hK' => G1_call (by simp only [gtarget, ↓GArg.ev, ↓evs, ↓Tr.get_set, Nat.reduceEqDiff, if_true, if_false, ↓reduceIte, Option.map_some, f5, f15, f16, f17]; rfl) (one_of (Fits_ok (l := txtO l l.length) (by omega) _)) fun r3 H3 hq => hK' _ _ ?_
  obtain ⟨rfl, rfl⟩ := hq
  have hfit : fitR 0 (txtO l l.length) = !(txtB l l.length) := by
   unfold txtO txtB
   rw [List.take_length, fitR_txt]
  rw [hfit]
  cases hB : txtB l l.length with
  | true =>
   rw [if_pos hB] at hT
   rw [hT] at hPost
   rw [Bool.not_true, Bool.false_and]
   repeat' (first | (exfalso; omega) | refine zn ?_ | refine zK rfl ?_ | refine zP rfl ?_ | ((first | refine zm ?_ | skip); intro _; intros; simp (disch := first | exact zd | fail) only [↓yS, yT, gresults, gone, ↓reduceIte, Nat.reduceEqDiff, Nat.reduceAdd, Nat.reduceMul, reduceCtorEq, Int.reduceToNat, g10, f5, f15, f16, f17]; first | (rename_i K k; (first | refine yC (k _ _ ?_) | refine zg (k _ ?_)); clear k K) | (rename_i A B C D a b c d; (first | refine zx (a ?_) | refine zy (b ?_) | refine zz (fun hc => c ?_) (fun hc => d ?_) | refine zv (b ?_) | refine zw (a ?_)) <;> clear a b c d A B C D <;> try simp only [yL] at hc)) | refine zA ?_ | refine zB ?_ | refine zF ?_)
   exact hPost _ _ ⟨rfl, hS1.trans hS2⟩
  | false =>
   rw [if_neg (by rw [hB]; decide)] at hT
   rw [Bool.not_false, Bool.true_and]
   by_cases hbig : 262144 < (txtO l l.length).length
   ·rw [if_pos hbig] at hT
    rw [hT] at hPost
    rw [decide_eq_false (show ¬ (txtO l l.length).length ≤ 262144 by omega)]
    repeat' (first | (exfalso; omega) | refine zn ?_ | refine zK rfl ?_ | refine zP rfl ?_ | ((first | refine zm ?_ | skip); intro _; intros; simp (disch := first | exact zd | fail) only [↓yS, yT, gresults, gone, ↓reduceIte, Nat.reduceEqDiff, Nat.reduceAdd, Nat.reduceMul, reduceCtorEq, Int.reduceToNat, g10, f5, f15, f16, f17]; first | (rename_i K k; (first | refine yC (k _ _ ?_) | refine zg (k _ ?_)); clear k K) | (rename_i A B C D a b c d; (first | refine zx (a ?_) | refine zy (b ?_) | refine zz (fun hc => c ?_) (fun hc => d ?_) | refine zv (b ?_) | refine zw (a ?_)) <;> clear a b c d A B C D <;> try simp only [yL] at hc)) | refine zA ?_ | refine zB ?_ | refine zF ?_)
    exact hPost _ _ ⟨rfl, hS1.trans hS2⟩
   ·rw [if_neg hbig] at hT
    rw [hT] at hPost
    rw [decide_eq_true (show (txtO l l.length).length ≤ 262144 by omega)]
    repeat' (first | (exfalso; omega) | refine zn ?_ | refine zK rfl ?_ | refine zP rfl ?_ | ((first | refine zm ?_ | skip); intro _; intros; simp (disch := first | exact zd | fail) only [↓yS, yT, gresults, gone, ↓reduceIte, Nat.reduceEqDiff, Nat.reduceAdd, Nat.reduceMul, reduceCtorEq, Int.reduceToNat, g10, f5, f15, f16, f17]; first | (rename_i K k; (first | refine yC (k _ _ ?_) | refine zg (k _ ?_)); clear k K) | (rename_i A B C D a b c d; (first | refine zx (a ?_) | refine zy (b ?_) | refine zz (fun hc => c ?_) (fun hc => d ?_) | refine zv (b ?_) | refine zw (a ?_)) <;> clear a b c d A B C D <;> try simp only [yL] at hc)) | refine zA ?_ | refine zB ?_ | refine zF ?_)
    exact hPost _ _ ⟨rfl, hS1.trans hS2⟩
 have hxm := bang_mem hj1
 have hx := hok _ hxm
 have e1 := (hv1.later hw1 hS2).rowN hj1
 have htg := (hv1.later hw1 hS2).tg _ hxm
 have hos := txtO_succ hj1
 generalize l[j]! = x at *
 have hxl := hx.len
 have hxn := hx.n
 have hxs := phr_len hx.s
 unfold tmV at e1
 have hgt := gsetn_tm (cs := [.string ⟨#[]⟩, .slice none 0 0]) (x := x) rfl htg.flat
 unfold tmV at hgt
 have hsg := htg.rd.isSl
 have td0 : (tmC x)[0]? = some (.string (strB x.s)) := rfl
 have td1 : (tmC x)[1]? = some x.v := rfl
 have hSA : Same H2 ((H2.add (some (.cells [.string ⟨#[]⟩, .slice none 0 0] 0 true))).put H2.len (.cells (tmC x) 0 true)) := (Same.refl hw2).new _ _
 repeat' (first | (exfalso; omega) | refine zn ?_ | refine zK rfl ?_ | refine zP rfl ?_ | ((first | refine zm ?_ | skip); intro _; intros; simp (disch := first | exact zd | fail) only [↓yS, yT, gresults, gone, ↓reduceIte, Nat.reduceEqDiff, Nat.reduceAdd, Nat.reduceMul, reduceCtorEq, Int.reduceToNat, g10, f5, f15, f16, f17, hsl.ia, e1, hgt, td0, td1, hsg.len]; first | (rename_i K k; (first | refine yC (k _ _ ?_) | refine zg (k _ ?_)); clear k K) | (rename_i A B C D a b c d; (first | refine zx (a ?_) | refine zy (b ?_) | refine zz (fun hc => c ?_) (fun hc => d ?_) | refine zv (b ?_) | refine zw (a ?_)) <;> clear a b c d A B C D <;> try simp only [yL] at hc)) | refine zA ?_ | refine zB ?_ | refine zF ?_)
 refine Gw_s fun K' hK' => G1_call (by simp only [gtarget, ↓GArg.ev, ↓evs, ↓Tr.get_set, Nat.reduceEqDiff, if_true, if_false, ↓reduceIte, Option.map_some, f5, f15, f16, f17]; rfl) (one_of (rQuote_ok (l := x.s) (by omega) _)) fun r3 H3 hq => hK' _ _ ?_
 obtain ⟨rfl, rfl⟩ := hq
 have hrv : ((H2.add (some (.cells [.string ⟨#[]⟩, .slice none 0 0] 0 true))).put H2.len (.cells (tmC x) 0 true)).rd H2.len 1 = some x.v := rd_put_same
 generalize ((H2.add (some (.cells [.string ⟨#[]⟩, .slice none 0 0] 0 true))).put H2.len (.cells (tmC x) 0 true)) = H3 at *
 have hql := quoF_len x.s
 have hap1 : ∀ e, gbin .add e (.string ⟨#[84, 69, 82, 77, 32]⟩) (.string (strB (quoF x.s))) = some (.string (strB (termB ++ (32 :: quoF x.s)))) := fun e => gb_addB (a := [84, 69, 82, 77, 32]) (b := quoF x.s) (by simp only [List.length_cons, List.length_nil]; omega)
 have hap2 : ∀ e, gbin .add e (.string (strB (txtO l j))) (.string (strB (termB ++ (32 :: quoF x.s)))) = some (.string (strB (txtO l j ++ (termB ++ (32 :: quoF x.s))))) := fun e => gb_addB (by simp only [List.length_append, List.length_cons, termB, List.length_nil]; omega)
 repeat' (first | (exfalso; omega) | refine zn ?_ | refine zK rfl ?_ | refine zP rfl ?_ | ((first | refine zm ?_ | skip); intro _; intros; simp (disch := first | exact zd | fail) only [↓yS, yT, gresults, gone, ↓reduceIte, Nat.reduceEqDiff, Nat.reduceAdd, Nat.reduceMul, reduceCtorEq, Int.reduceToNat, g10, f5, f15, f16, f17, hap1, hap2, hrv, hsg.len]; first | (rename_i K k; (first | refine yC (k _ _ ?_) | refine zg (k _ ?_)); clear k K) | (rename_i A B C D a b c d; (first | refine zx (a ?_) | refine zy (b ?_) | refine zz (fun hc => c ?_) (fun hc => d ?_) | refine zv (b ?_) | refine zw (a ?_)) <;> clear a b c d A B C D <;> try simp only [yL] at hc)) | refine zA ?_ | refine zB ?_ | refine zF ?_)
 have htgl : ∀ k, k ≤ x.g.length → (tgB (x.g.take k)).length ≤ 8000 := fun k hk => by
  have : tgB x.g = tgB (x.g.take k) ++ tgB (x.g.drop k) := by
   unfold tgB; rw [← List.flatMap_append, List.take_append_drop]
  have h2 := congrArg List.length this
  rw [List.length_append] at h2
  unfold tline at hxl
  rw [List.length_append] at hxl
  omega
 refine GW_loop (fun k fr H4 => ∃ (k' : Nat), k = x.g.length - k' ∧ k' ≤ x.g.length ∧ fr.get 5 = some (.string (strB (txtO l j ++ (termB ++ (32 :: quoF x.s) ++ tgB (x.g.take k'))))) ∧ fr.get 15 = some (v) ∧ fr.get 16 = some (.int .i64 l.length) ∧ fr.get 17 = some (.int .i64 j) ∧ fr.get 28 = some (x.v) ∧ fr.get 29 = some (.int .i64 x.g.length) ∧ fr.get 30 = some (.int .i64 k') ∧ H4 = H3) ?_ x.g.length ?_
 rotate_left
 ·refine ⟨0, by omega, by omega, ?_⟩
  simp only [↓yG, Nat.reduceEqDiff, ↓reduceIte, Int.natCast_add, Int.cast_ofNat_Int, Int.natCast_zero, true_and, and_true, Option.some.injEq, Value.int.injEq, f5, f15, f16, f17]
  first | rfl | simp [tgB] | skip
 rintro k fr H4 ⟨i, rfl, hi, i5, i15, i16, i17, i28, i29, i30, rfl⟩ J2 hJ2
 have htl := htgl i hi
 by_cases hi1 : i < x.g.length
 ·have c1 := SRd.at_ (GArg1.same htg hw2 hSA) hi1
  have hti := tgB_succ hi1
  have hph := phr_len (hx.g _ (bang_mem hi1))
  generalize x.g[i]! = t at *
  repeat' (first | (exfalso; omega) | refine zn ?_ | refine zK rfl ?_ | refine zP rfl ?_ | ((first | refine zm ?_ | skip); intro _; intros; simp (disch := first | exact zd | fail) only [↓yS, yT, gresults, gone, ↓reduceIte, Nat.reduceEqDiff, Nat.reduceAdd, Nat.reduceMul, reduceCtorEq, Int.reduceToNat, g10, i5, i15, i16, i17, i28, i29, i30, hsg.ia, c1]; first | (rename_i K k; (first | refine yC (k _ _ ?_) | refine zg (k _ ?_)); clear k K) | (rename_i A B C D a b c d; (first | refine zx (a ?_) | refine zy (b ?_) | refine zz (fun hc => c ?_) (fun hc => d ?_) | refine zv (b ?_) | refine zw (a ?_)) <;> clear a b c d A B C D <;> try simp only [yL] at hc)) | refine zA ?_ | refine zB ?_ | refine zF ?_)
  refine Gw_s fun K' hK' => G1_call (by simp only [gtarget, ↓GArg.ev, ↓evs, ↓Tr.get_set, Nat.reduceEqDiff, if_true, if_false, ↓reduceIte, Option.map_some, i5, i15, i16, i17, i28, i29, i30]; rfl) (one_of (rQuote_ok (l := t) (by omega) _)) fun r5 H5 hq => hK' _ _ ?_
  obtain ⟨rfl, rfl⟩ := hq
  have hqt := quoF_len t
  have hap3 : ∀ e, gbin .add e (.string ⟨#[32]⟩) (.string (strB (quoF t))) = some (.string (strB (32 :: quoF t))) := fun e => gb_addB (a := [32]) (b := quoF t) (by simp only [List.length_cons, List.length_nil]; omega)
  have hap4 : ∀ e, gbin .add e (.string (strB (txtO l j ++ (termB ++ (32 :: quoF x.s) ++ tgB (x.g.take i))))) (.string (strB (32 :: quoF t))) = some (.string (strB (txtO l j ++ (termB ++ (32 :: quoF x.s) ++ tgB (x.g.take i)) ++ (32 :: quoF t)))) := fun e => gb_addB (by simp only [List.length_append, List.length_cons, termB, List.length_nil]; omega)
  repeat' (first | (exfalso; omega) | refine zn ?_ | refine zK rfl ?_ | refine zP rfl ?_ | ((first | refine zm ?_ | skip); intro _; intros; simp (disch := first | exact zd | fail) only [↓yS, yT, gresults, gone, ↓reduceIte, Nat.reduceEqDiff, Nat.reduceAdd, Nat.reduceMul, reduceCtorEq, Int.reduceToNat, g10, i5, i15, i16, i17, i28, i29, i30, hap3, hap4]; first | (rename_i K k; (first | refine yC (k _ _ ?_) | refine zg (k _ ?_)); clear k K) | (rename_i A B C D a b c d; (first | refine zx (a ?_) | refine zy (b ?_) | refine zz (fun hc => c ?_) (fun hc => d ?_) | refine zv (b ?_) | refine zw (a ?_)) <;> clear a b c d A B C D <;> try simp only [yL] at hc)) | refine zA ?_ | refine zB ?_ | refine zF ?_)
  refine hJ2 _ _ ⟨x.g.length - (i + 1), by omega, i + 1, rfl, by omega, ?_⟩
  simp only [↓yG, Nat.reduceEqDiff, ↓reduceIte, Int.natCast_add, Int.cast_ofNat_Int, Int.natCast_zero, true_and, and_true, Option.some.injEq, Value.int.injEq, i5, i15, i16, i17, i28, i29, i30]
  rw [hti]
  simp only [List.append_assoc]
 obtain rfl : i = x.g.length := by omega
 rw [List.take_length] at i5 htl
 have hap5 : ∀ e, gbin .add e (.string (strB (txtO l j ++ (termB ++ (32 :: quoF x.s) ++ tgB x.g)))) (.string ⟨#[10]⟩) = some (.string (strB (txtO l j ++ (termB ++ (32 :: quoF x.s) ++ tgB x.g) ++ [10]))) := fun e => gb_addB (b := [10]) (by simp only [List.length_append, List.length_cons, termB, List.length_nil]; omega)
 repeat' (first | (exfalso; omega) | refine zn ?_ | refine zK rfl ?_ | refine zP rfl ?_ | ((first | refine zm ?_ | skip); intro _; intros; simp (disch := first | exact zd | fail) only [↓yS, yT, gresults, gone, ↓reduceIte, Nat.reduceEqDiff, Nat.reduceAdd, Nat.reduceMul, reduceCtorEq, Int.reduceToNat, g10, i5, i15, i16, i17, i28, i29, i30, hap5]; first | (rename_i K k; (first | refine yC (k _ _ ?_) | refine zg (k _ ?_)); clear k K) | (rename_i A B C D a b c d; (first | refine zx (a ?_) | refine zy (b ?_) | refine zz (fun hc => c ?_) (fun hc => d ?_) | refine zv (b ?_) | refine zw (a ?_)) <;> clear a b c d A B C D <;> try simp only [yL] at hc)) | refine zA ?_ | refine zB ?_ | refine zF ?_)
 refine hJ _ _ ⟨l.length - (j + 1), by omega, j + 1, rfl, by omega, ?_⟩
 simp only [↓yG, Nat.reduceEqDiff, ↓reduceIte, Int.natCast_add, Int.cast_ofNat_Int, Int.natCast_zero, true_and, and_true, Option.some.injEq, Value.int.injEq, i5, i15, i16, i17, i28, i29, i30]
 refine ⟨?_, hS2.trans hSA⟩
 rw [hos]
 simp only [tline, List.append_assoc]
end Go.Gh
