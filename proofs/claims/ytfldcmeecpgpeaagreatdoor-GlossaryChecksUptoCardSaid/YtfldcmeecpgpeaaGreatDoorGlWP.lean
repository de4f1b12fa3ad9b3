/-
 glossary, walked: Parse.
-/
import Derived.Test.YtfldcmeecpgpeaaGreatDoorGlP4
namespace Go.Gh
set_option linter.unusedSimpArgs false
set_option linter.unusedVariables false
set_option maxHeartbeats 4000000
open Go.RowKit Go.Lib
set_option maxRecDepth 4000
structure TOut (H0 H : GHeap) (v : Value) (T : List Tm) : Prop where
 own : OS 2 2 H0 H v T.length (TmC T)
 rows : ∀ x ∈ T, OS 1 1 H0 H x.v x.g.length (strs x.g)
theorem TmC_snoc (l : List Tm) (x : Tm) : TmC (l ++ [x]) = TmC l ++ tmC x := by simp [TmC]
theorem TOut.nil {H0 H : GHeap} (hs : Same H0 H) : TOut H0 H (.slice none 0 0) [] := ⟨OS.nil hs, by simp⟩
theorem TOut.later {H0 H H' : GHeap} {v : Value} {T : List Tm} (h : TOut H0 H v T) (hs : Same H H') : TOut H0 H' v T := ⟨h.own.later hs, fun x hx => (h.rows x hx).later hs⟩
theorem TOut.but {H0 H H' : GHeap} {S : Nat → Prop} {v : Value} {T : List Tm} (h : TOut H0 H v T) (hb : But S H H') (h0 : ∀ k, k < H0.len → ¬ S k) (ha : ∀ a, (∃ cs, H.mine a = some (cs, 2)) ∨ (∃ cs, H.mine a = some (cs, 1)) → ¬ S a) : TOut H0 H' v T :=
 ⟨h.own.but hb h0 fun a h1 => ha a (.inl ⟨_, (h.own.ids h1).2.2⟩), fun x hx => (h.rows x hx).but hb h0 fun a h1 => ha a (.inr ⟨_, ((h.rows x hx).ids h1).2.2⟩)⟩
theorem TOut.weaken {H0 H1 H : GHeap} {v : Value} {T : List Tm} (h : TOut H1 H v T) (hs : Same H0 H1) : TOut H0 H v T := ⟨h.own.weaken hs, fun x hx => (h.rows x hx).weaken hs⟩
structure TdI (H1 H2 : GHeap) (tv dv : Value) (T : List Tm) (D : List Dg) : Prop where
 out : TOut H1 H2 tv T
 dg : OS 3 3 H1 H2 dv D.length (DgC D)
theorem TdI.later {H1 H2 H3 : GHeap} {tv dv : Value} {T : List Tm} {D : List Dg} (h : TdI H1 H2 tv dv T D) (hs : Same H2 H3) : TdI H1 H3 tv dv T D := ⟨h.out.later hs, h.dg.later hs⟩
theorem unit_no {H : GHeap} {a : Nat} {s u n : Nat} {H0 : GHeap} {v : Value} {xs : List Value} (h : OS s u H0 H v n xs) {cs : List Value} {u' : Nat} (hm : H.mine a = some (cs, u')) (hu : u ≠ u') : ¬ a ∈ idOf v := fun ha => by
 have h1 := (h.ids ha).2.2
 rw [hm] at h1
 simp only [Option.some.injEq, Prod.mk.injEq] at h1
 exact hu h1.2.symm
theorem TdI.addD {H1 H2 : GHeap} {tv dv : Value} {T : List Tm} {D : List Dg} (h : TdI H1 H2 tv dv T D) (x : Dg) (hl : (D.length + 1) * 24 ≤ 140737488355328) :
  ∃ v' H', gapp 3 24 3 (H2.add (some (.cells (dgC x) 3 true))) dv (.slice (some ⟨H2.len, 0, none⟩) 1 2) = some (v', H') ∧ TdI H1 H' tv v' T (D ++ [x]) := by
 obtain ⟨v', H', e, hO, hB⟩ := h.dg.app1 (by decide) (by decide) (news := dgC x) rfl (b := 24) hl (by omega)
 refine ⟨v', H', e, h.out.but hB (fun k hk ha => by have := (h.dg.ids ha).1; omega) ?_, by rw [DgC_snoc, List.length_append]; exact hO⟩
 rintro a (⟨cs, hm⟩ | ⟨cs, hm⟩)
 ·exact unit_no h.dg hm (by decide)
 ·exact unit_no h.dg hm (by decide)
theorem TdI.addT {H1 H2 : GHeap} {tv dv : Value} {T : List Tm} {D : List Dg} (h : TdI H1 H2 tv dv T D) {x : Tm} (hx : OS 1 1 H1 H2 x.v x.g.length (strs x.g)) (hl : (T.length + 1) * 40 ≤ 140737488355328) :
  ∃ v' H', gapp 2 40 2 (H2.add (some (.cells (tmC x) 2 true))) tv (.slice (some ⟨H2.len, 0, none⟩) 1 2) = some (v', H') ∧ TdI H1 H' v' dv (T ++ [x]) D ∧ But (fun j => j ∈ idOf tv) H2 H' := by
 obtain ⟨v', H', e, hO, hB⟩ := h.out.own.app1 (by decide) (by decide) (news := tmC x) rfl (b := 40) hl (by omega)
 have h0 : ∀ k, k < H1.len → ¬ k ∈ idOf tv := fun k hk ha => by have := (h.out.own.ids ha).1; omega
 refine ⟨v', H', e, ⟨⟨by rw [TmC_snoc, List.length_append]; exact hO, fun y hy => ?_⟩, h.dg.but hB h0 (h.dg.ne h.out.own (.inr (by decide)))⟩, hB⟩
 have : OS 1 1 H1 H2 y.v y.g.length (strs y.g) := by
  rcases List.mem_append.1 hy with hy | hy
  ·exact h.out.rows y hy
  ·rw [List.mem_singleton.1 hy]; exact hx
 exact this.but hB h0 (this.ne h.out.own (.inr (by decide)))
structure ParOut (H H' : GHeap) (r : Value) (src : List UInt8) : Prop where
 ex : ∃ tv dv T, r = .tuple #[tv, dv] ∧ TR H' tv T ∧ T.map Tm.t0 = parT src ∧ GArg1 H' 3 dv (parD src).length (DgC (parD src)) ∧ Same H H'
theorem outF_small {Ls : List (List UInt8)} : ∀ n, ∀ x ∈ outF Ls n, smL x.f ∧ x.f ≠ [] ∧ 1 ≤ x.n ∧ x.n ≤ n := by
 intro n
 induction n with
 | zero => intro x hx; simp [outF] at hx
 | succ n ih =>
  intro x hx
  rw [outF_succ] at hx
  rcases List.mem_append.1 hx with hx | hx
  ·obtain ⟨a, b, c, d⟩ := ih x hx; exact ⟨a, b, c, by omega⟩
  ·cases hl : lineR Ls[n]! with
   | bad a b => rw [hl] at hx; simp at hx
   | ok F =>
    rw [hl] at hx
    cases F with
    | nil => simp at hx
    | cons f F =>
     simp only [List.mem_singleton] at hx
     subst hx
     unfold lineR at hl
     split at hl
     ·cases hl
     ·rename_i hlen
      cases hf : flds Ls[n]! 0 with
      | bad i => rw [hf] at hl; cases hl
      | ok F' =>
       rw [hf] at hl
       cases hl
       have h := flds_size _ 0 _ (Nat.le_refl _) hf
       refine ⟨⟨?_, fun g hg => by have := (h.2 g hg).1; omega⟩, by simp, by simp, by simp⟩
       have h1 := h.1
       simp only [ite_self, Nat.add_zero] at h1
       show (f :: F).length ≤ 1000
       omega
theorem splO_small {src : List UInt8} : ∀ x ∈ splO src, smL x.f ∧ x.f ≠ [] ∧ 1 ≤ x.n ∧ x.n ≤ 262145 := by
 intro x hx
 unfold splO at hx
 split at hx
 ·simp at hx
 ·obtain ⟨a, b, c, d⟩ := outF_small _ x hx
  have := (lns_len src).1
  exact ⟨a, b, c, by omega⟩
theorem splO_len {src : List UInt8} : (splO src).length ≤ 262145 := by
 unfold splO
 split
 ·simp
 ·have := outF_len (lns src) (lns src).length
  have := (lns_len src).1
  omega
theorem TR.nil {H : GHeap} (hw : H.wf) : TR H (.slice none 0 0) [] := ⟨(OS.nil (s := 2) (u := 2) (Same.refl hw)).arg, by simp, by simp, by simp⟩
theorem TOut.tr {H0 H : GHeap} {v : Value} {T : List Tm} (h : TOut H0 H v T) (hl : T.length ≤ 16777216) (hs : ∀ x ∈ T, x.s.length ≤ 16777216 ∧ x.g.length ≤ 16777216 ∧ ∀ t ∈ x.g, t.length ≤ 16777216) : TR H v T :=
 ⟨h.own.arg, fun x hx => (h.rows x hx).arg, hl, hs⟩
theorem t0_tm (l : List T0) : (l.map T0.tm).map Tm.t0 = l := by
 rw [List.map_map]
 conv => rhs; rw [← List.map_id l]
 rfl
theorem take50_nil {D : List Dg} (h : D.take 50 = []) : D = [] := by
 cases D with
 | nil => rfl
 | cons x l => simp at h
theorem fill_tmv {t : List UInt8} {x : Value} (h : flatV x = true) : fillL (zeros [.string ⟨#[]⟩, .slice none 0 0] 1) [(0, 2, .agg #[.string (strB t), x])] = some [.string (strB t), x] := by
 simp [fillL, Value.cells, flatV_str, h, zeros]
set_option maxHeartbeats 4000000 in
theorem Parse_ok {H : GHeap} (hw : H.wf) {src : List UInt8} (hl : src.length ≤ 140737488355328) : ∃ r H', gev G 11 [.string (strB src)] H = some (r, H') ∧ ParOut H H' r src := by
 refine gev_GW (f := 11) rfl fun Post hPost => ?_
 simp only [frameOf, Nat.reduceAdd]
 repeat' (first | (exfalso; omega) | refine zn ?_ | refine zK rfl ?_ | refine zP rfl ?_ | ((first | refine zm ?_ | skip); intro _; intros; simp (disch := first | exact zd | fail) only [↓yS, yT, gresults, gone, ↓reduceIte, Nat.reduceEqDiff, Nat.reduceAdd, Nat.reduceMul, reduceCtorEq, Int.reduceToNat, g11]; first | (rename_i K k; (first | refine yC (k _ _ ?_) | refine zg (k _ ?_)); clear k K) | (rename_i A B C D a b c d; (first | refine zx (a ?_) | refine zy (b ?_) | refine zz (fun hc => c ?_) (fun hc => d ?_) | refine zv (b ?_) | refine zw (a ?_)) <;> clear a b c d A B C D <;> try simp only [yL] at hc)) | refine zA ?_ | refine zB ?_ | refine zF ?_)
 refine Gw_s fun K' hK' => G1_call (by simp only [gtarget, ↓GArg.ev, ↓evs, ↓Tr.get_set, Nat.reduceEqDiff, if_true, if_false, ↓reduceIte, Option.map_some]; rfl) (Split_ok hw hl) fun r1 H1 hq => hK' _ _ ?_
 obtain ⟨ov, dv0, L, rfl, hLO, hLm, hdg, hnil⟩ := hq
 have hS1 := hLO.own.same
 have hw1 := hS1.wf
 have hsl0 := hdg.rd.isSl
 by_cases hsp : splD src = []
 case neg =>
  have hpos := List.length_pos_iff.2 hsp
  have hD : parD src = splD src := if_pos hsp
  have hT : parT src = [] := if_neg (fun h => hsp h.1)
  repeat' (first | (exfalso; omega) | refine zn ?_ | refine zK rfl ?_ | refine zP rfl ?_ | ((first | refine zm ?_ | skip); intro _; intros; simp (disch := first | exact zd | fail) only [↓yS, yT, gresults, gone, ↓reduceIte, Nat.reduceEqDiff, Nat.reduceAdd, Nat.reduceMul, reduceCtorEq, Int.reduceToNat, g11, hsl0.len]; first | (rename_i K k; (first | refine yC (k _ _ ?_) | refine zg (k _ ?_)); clear k K) | (rename_i A B C D a b c d; (first | refine zx (a ?_) | refine zy (b ?_) | refine zz (fun hc => c ?_) (fun hc => d ?_) | refine zv (b ?_) | refine zw (a ?_)) <;> clear a b c d A B C D <;> try simp only [yL] at hc)) | refine zA ?_ | refine zB ?_ | refine zF ?_)
  exact hPost _ _ ⟨.slice none 0 0, dv0, [], rfl, TR.nil hw1, by rw [hT]; rfl, by rw [hD]; exact hdg, hS1⟩
 have hd0 := hnil hsp
 subst hd0
 rw [hsp] at hsl0
 have hslL := hLO.own.rd.isSl
 have hsm := @splO_small src
 have hsn := @splO_len src
 have hMl : (splO src).length = L.length := by rw [← hLm, List.length_map]
 have hD : parD src = if dgM (splO src) (splO src).length ≠ [] then (dgM (splO src) (splO src).length).take 50
   else if chkF ((tmM (splO src) (splO src).length).map T0.tm) ≠ 0 then [⟨1, 1, chkF ((tmM (splO src) (splO src).length).map T0.tm)⟩] else [] := if_neg (fun h => h hsp)
 have hT : parT src = if dgM (splO src) (splO src).length = [] ∧ chkF ((tmM (splO src) (splO src).length).map T0.tm) = 0 then tmM (splO src) (splO src).length else [] := by
  unfold parT
  rw [hsp]; simp only [true_and]
 have hat : ∀ j, j < L.length → L[j]!.2 = (splO src)[j]! := fun j hj => by
  rw [← hLm, getElem!_pos L j hj, getElem!_pos (L.map (·.2)) j (by rw [List.length_map]; exact hj), List.getElem_map]
 generalize splO src = M at *
 rw [hMl] at hD hT hsn
 have h00 : glen false (.slice none 0 0) = some (.int .i64 0) := rfl
 repeat' (first | (exfalso; omega) | refine zn ?_ | refine zK rfl ?_ | refine zP rfl ?_ | ((first | refine zm ?_ | skip); intro _; intros; simp (disch := first | exact zd | fail) only [↓yS, yT, gresults, gone, ↓reduceIte, Nat.reduceEqDiff, Nat.reduceAdd, Nat.reduceMul, reduceCtorEq, Int.reduceToNat, g11, h00, hslL.len]; first | (rename_i K k; (first | refine yC (k _ _ ?_) | refine zg (k _ ?_)); clear k K) | (rename_i A B C D a b c d; (first | refine zx (a ?_) | refine zy (b ?_) | refine zz (fun hc => c ?_) (fun hc => d ?_) | refine zv (b ?_) | refine zw (a ?_)) <;> clear a b c d A B C D <;> try simp only [yL] at hc)) | refine zA ?_ | refine zB ?_ | refine zF ?_)
 refine GW_loop (fun k fr H2 => ∃ (j : Nat) (tv dv : Value) (T : List Tm), k = L.length - j ∧ j ≤ L.length ∧ fr.get 5 = some (dv) ∧ fr.get 6 = some (tv) ∧ fr.get 24 = some (ov) ∧ fr.get 25 = some (.int .i64 L.length) ∧ fr.get 26 = some (.int .i64 j) ∧ TdI H1 H2 tv dv T ((dgM M j).take 50) ∧ T.length ≤ j ∧ (dgM M j = [] → T.map Tm.t0 = tmM M j) ∧ ∀ x ∈ T, x.s.length ≤ 16777216 ∧ x.g.length ≤ 16777216 ∧ ∀ t ∈ x.g, t.length ≤ 16777216) ?_ L.length ?_
 rotate_left
 ·refine ⟨0, .slice none 0 0, .slice none 0 0, [], by omega, by omega, ?_⟩
  simp only [↓yG, Nat.reduceEqDiff, ↓reduceIte, Int.natCast_add, Int.cast_ofNat_Int, Int.natCast_zero, true_and, and_true, Option.some.injEq, Value.int.injEq]
  exact ⟨⟨TOut.nil (Same.refl hw1), OS.nil (Same.refl hw1)⟩, by simp, fun _ => rfl, by simp⟩
 rintro k fr H2 ⟨j, tv, dv, T, rfl, hj, f5, f6, f24, f25, f26, hI, hTl, hTm, hTs⟩ J hJ
 have hS2 := hI.dg.same
 have hw2 := hS2.wf
 have hlim2 := hw2.1
 have hslD := hI.dg.rd.isSl
 by_cases hj1 : j < L.length
 case neg =>
  obtain rfl : j = L.length := by omega
  have hTR := hI.out.tr (by omega) hTs
  by_cases hDe : (dgM M L.length).take 50 = []
  ·have hDn := take50_nil hDe
   have hTe := hTm hDn
   rw [if_neg (fun h => h hDn)] at hD
   have hce : chkF T = chkF ((tmM M L.length).map T0.tm) := chkF_t0 (by rw [t0_tm]; exact hTe)
   rw [← hce] at hD hT
   rw [hDe] at hslD
   repeat' (first | (exfalso; omega) | refine zn ?_ | refine zK rfl ?_ | refine zP rfl ?_ | ((first | refine zm ?_ | skip); intro _; intros; simp (disch := first | exact zd | fail) only [↓yS, yT, gresults, gone, ↓reduceIte, Nat.reduceEqDiff, Nat.reduceAdd, Nat.reduceMul, reduceCtorEq, Int.reduceToNat, g11, f5, f6, f24, f25, f26, hslD.len, List.length_nil]; first | (rename_i K k; (first | refine yC (k _ _ ?_) | refine zg (k _ ?_)); clear k K) | (rename_i A B C D a b c d; (first | refine zx (a ?_) | refine zy (b ?_) | refine zz (fun hc => c ?_) (fun hc => d ?_) | refine zv (b ?_) | refine zw (a ?_)) <;> clear a b c d A B C D <;> try simp only [yL] at hc)) | refine zA ?_ | refine zB ?_ | refine zF ?_)
   refine Gw_s fun K' hK' => G1_call (by simp only [gtarget, ↓GArg.ev, ↓evs, ↓Tr.get_set, Nat.reduceEqDiff, if_true, if_false, ↓reduceIte, Option.map_some, f5, f6, f24, f25, f26]; rfl) (Check_ok hw2 hTR) fun r3 H3 hq => hK' _ _ ?_
   obtain ⟨rfl, hS3⟩ := hq
   have hS4 := hS1.trans (hS2.trans hS3)
   by_cases hc0 : chkF T = 0
   ·rw [if_neg (fun h => h hc0)] at hD
    rw [if_pos ⟨hDn, hc0⟩] at hT
    have hz : ((chkF T : Nat) : Int) = 0 := by omega
    rw [hz]
    have hsl3 : glen false dv = some (.int .i64 0) := hslD.len
    repeat' (first | (exfalso; omega) | refine zn ?_ | refine zK rfl ?_ | refine zP rfl ?_ | ((first | refine zm ?_ | skip); intro _; intros; simp (disch := first | exact zd | fail) only [↓yS, yT, gresults, gone, ↓reduceIte, Nat.reduceEqDiff, Nat.reduceAdd, Nat.reduceMul, reduceCtorEq, Int.reduceToNat, g11, f5, f6, f24, f25, f26, hsl3]; first | (rename_i K k; (first | refine yC (k _ _ ?_) | refine zg (k _ ?_)); clear k K) | (rename_i A B C D a b c d; (first | refine zx (a ?_) | refine zy (b ?_) | refine zz (fun hc => c ?_) (fun hc => d ?_) | refine zv (b ?_) | refine zw (a ?_)) <;> clear a b c d A B C D <;> try simp only [yL] at hc)) | refine zA ?_ | refine zB ?_ | refine zF ?_)
    exact hPost _ _ ⟨tv, .slice none 0 0, T, rfl, hTR.later hw2 hS3, by rw [hT]; exact hTe, by rw [hD]; exact (OS.nil (s := 3) (u := 3) (Same.refl hS3.wf)).arg, hS4⟩
   ·rw [if_pos hc0] at hD
    rw [if_neg (fun h => hc0 h.2)] at hT
    have hz : ¬ ((chkF T : Nat) : Int) = 0 := by omega
    generalize chkF T = e at *
    have hOe := OS.made' (s := 3) (u := 3) (n := 1) (cs := dgC ⟨1, 1, e⟩) (Same.refl hS3.wf) rfl
    repeat' (first | (exfalso; omega) | refine zn ?_ | refine zK rfl ?_ | refine zP rfl ?_ | ((first | refine zm ?_ | skip); intro _; intros; simp (disch := first | exact zd | fail) only [↓yS, yT, gresults, gone, ↓reduceIte, Nat.reduceEqDiff, Nat.reduceAdd, Nat.reduceMul, reduceCtorEq, Int.reduceToNat, g11, f5, f6, f24, f25, f26]; first | (rename_i K k; (first | refine yC (k _ _ ?_) | refine zg (k _ ?_)); clear k K) | (rename_i A B C D a b c d; (first | refine zx (a ?_) | refine zy (b ?_) | refine zz (fun hc => c ?_) (fun hc => d ?_) | refine zv (b ?_) | refine zw (a ?_)) <;> clear a b c d A B C D <;> try simp only [yL] at hc)) | refine zA ?_ | refine zB ?_ | refine zF ?_)
    exact hPost _ _ ⟨.slice none 0 0, _, [], rfl, TR.nil hOe.same.wf, by rw [hT]; rfl, by rw [hD]; exact hOe.arg, hS4.trans hOe.same⟩
  ·have hDn : dgM M L.length ≠ [] := fun e => hDe (by rw [e]; rfl)
   rw [if_pos hDn] at hD
   rw [if_neg (fun h => hDn h.1)] at hT
   have hpos := List.length_pos_iff.2 hDe
   repeat' (first | (exfalso; omega) | refine zn ?_ | refine zK rfl ?_ | refine zP rfl ?_ | ((first | refine zm ?_ | skip); intro _; intros; simp (disch := first | exact zd | fail) only [↓yS, yT, gresults, gone, ↓reduceIte, Nat.reduceEqDiff, Nat.reduceAdd, Nat.reduceMul, reduceCtorEq, Int.reduceToNat, g11, f5, f6, f24, f25, f26, hslD.len]; first | (rename_i K k; (first | refine yC (k _ _ ?_) | refine zg (k _ ?_)); clear k K) | (rename_i A B C D a b c d; (first | refine zx (a ?_) | refine zy (b ?_) | refine zz (fun hc => c ?_) (fun hc => d ?_) | refine zv (b ?_) | refine zw (a ?_)) <;> clear a b c d A B C D <;> try simp only [yL] at hc)) | refine zA ?_ | refine zB ?_ | refine zF ?_)
   exact hPost _ _ ⟨.slice none 0 0, dv, [], rfl, TR.nil hw2, by rw [hT]; rfl, by rw [hD]; exact hI.dg.arg, hS1.trans hS2⟩
 have hxm := bang_mem hj1
 have hlj := hat j hj1
 have hdS := dgM_succ M j
 have htS := tmM_succ M j
 have hone := fun c => take50_one (D := dgM M j) (x := ⟨M[j]!.n, c, 4⟩)
 have hMm : M[j]! ∈ M := bang_mem (by omega)
 obtain ⟨hs1, hs2, hs3, hs4⟩ := hsm _ hMm
 have hrow := (hLO.rows _ hxm).1
 have e1 : H2.rdn (blk ov) (ofs ov + j * 2) 2 = some (.agg (lnC L[j]!).toArray) := GRd.rowN (f := lnC) ((hLO.own.arg.rd).same hS2) lnC_len (by decide) hj1
 unfold lnC at e1
 rw [hlj] at e1 hrow
 generalize hwv : L[j]!.1 = wv at *
 have hff := hrow.flat
 have hgl : (M[j]!).f.length ≠ 0 := fun e => hs2 (List.eq_nil_of_length_eq_zero e)
 have hfr : FRd H2 wv (M[j]!).f := GArg1.same hrow.arg hw1 hS2
 generalize M[j]! = ln at *
 have hslw := hfr.rd.isSl
 have ef := FRd.rowN hfr (k := 0) (by omega)
 unfold fdV at ef
 have hDl : ((dgM M j).take 50).length ≤ 50 := by rw [List.length_take]; omega
 have hlv := gsetn_all (cs := [.int .i64 0, .slice none 0 0]) (n := 2) (vs := #[.int .i64 (ln.n : Int), wv]) rfl rfl (by
  show ([.int .i64 ln.n, wv] : List Value).all flatV = true
  simp only [List.all_cons, List.all_nil, hff]; rfl)
 rw [Nat.zero_mul, Nat.add_zero] at ef
 have hwlt : blk wv < H2.len := hfr.rd.lt (by omega)
 generalize hf0 : ln.f[0]! = f0 at *
 have hgf : ∀ z : List Value, z.length = 3 → gsetn z 0 3 (.agg #[.string (strB f0.t), .int .i64 f0.c, .bool f0.q]) = some (fdC f0) := fun z hz => gsetn_all hz rfl (by
  show ([.string (strB f0.t), .int .i64 f0.c, .bool f0.q] : List Value).all flatV = true
  simp [flatV])
 have hgf' := hgf [.string ⟨#[]⟩, .int .i64 0, .bool false] rfl
 have hz : ∀ a b c : Int, gsetn [.int .i64 0, .int .i64 0, .int .i64 0] 0 3 (.agg #[.int .i64 a, .int .i64 b, .int .i64 c]) = some [.int .i64 a, .int .i64 b, .int .i64 c] := fun a b c => gsetn_all rfl rfl (by
  show ([.int .i64 a, .int .i64 b, .int .i64 c] : List Value).all flatV = true
  simp [flatV])
 have fd0 : (fdC f0)[0]? = some (.string (strB f0.t)) := rfl
 have fd1 : (fdC f0)[1]? = some (.int .i64 f0.c) := rfl
 have fd2 : (fdC f0)[2]? = some (.bool f0.q) := rfl
 have hTm' : gbin .eql (some .str) (.string (strB f0.t)) (.string ⟨#[84, 69, 82, 77]⟩) = some (.bool (decide (f0.t = [84, 69, 82, 77]))) := gb_eqlB (b := [84, 69, 82, 77])
 have hTm2 : gbin .eql none (.string (strB f0.t)) (.string ⟨#[84, 69, 82, 77]⟩) = some (.bool (decide (f0.t = [84, 69, 82, 77]))) := gb_eqlB (b := [84, 69, 82, 77])
 have hSA : Same H2 ((((((H2.add (some (.cells [.int .i64 0, .slice none 0 0] 0 true))).put H2.len (.cells [.int .i64 ln.n, wv] 0 true)).add (some (.cells [.string ⟨#[]⟩, .int .i64 0, .bool false] 0 true))).put (H2.len + 1) (.cells (fdC f0) 0 true)).add (some (.cells [.int .i64 0, .int .i64 0, .int .i64 0] 0 true))).put (H2.len + 1 + 1) (.cells [.int .i64 ln.n, .int .i64 f0.c, .int .i64 4] 0 true)) := (((((((Same.refl hw2).add _).put (Nat.le_refl _) (by simp only [len_add]; omega) _).add _).put (by omega) (by simp only [len_add, len_put]; omega) _).add _).put (by omega) (by simp only [len_add, len_put]; omega) _)
 have hlA : ((((((H2.add (some (.cells [.int .i64 0, .slice none 0 0] 0 true))).put H2.len (.cells [.int .i64 ln.n, wv] 0 true)).add (some (.cells [.string ⟨#[]⟩, .int .i64 0, .bool false] 0 true))).put (H2.len + 1) (.cells (fdC f0) 0 true)).add (some (.cells [.int .i64 0, .int .i64 0, .int .i64 0] 0 true))).put (H2.len + 1 + 1) (.cells [.int .i64 ln.n, .int .i64 f0.c, .int .i64 4] 0 true)).len = H2.len + 3 := by simp only [len_put, len_add]
 have hmA : ((((((H2.add (some (.cells [.int .i64 0, .slice none 0 0] 0 true))).put H2.len (.cells [.int .i64 ln.n, wv] 0 true)).add (some (.cells [.string ⟨#[]⟩, .int .i64 0, .bool false] 0 true))).put (H2.len + 1) (.cells (fdC f0) 0 true)).add (some (.cells [.int .i64 0, .int .i64 0, .int .i64 0] 0 true))).put (H2.len + 1 + 1) (.cells [.int .i64 ln.n, .int .i64 f0.c, .int .i64 4] 0 true)).mine (H2.len + 1 + 1) = some (dgC ⟨ln.n, f0.c, 4⟩, 0) := mine_put_same (by simp only [lim_put, lim_add]; omega)
 have hrA : ((((((H2.add (some (.cells [.int .i64 0, .slice none 0 0] 0 true))).put H2.len (.cells [.int .i64 ln.n, wv] 0 true)).add (some (.cells [.string ⟨#[]⟩, .int .i64 0, .bool false] 0 true))).put (H2.len + 1) (.cells (fdC f0) 0 true)).add (some (.cells [.int .i64 0, .int .i64 0, .int .i64 0] 0 true))).put (H2.len + 1 + 1) (.cells [.int .i64 ln.n, .int .i64 f0.c, .int .i64 4] 0 true)).rdn (H2.len + 1 + 1) 0 3 = some (.agg #[.int .i64 ln.n, .int .i64 f0.c, .int .i64 4]) := rdn_put_all rfl
 have hfin : ∀ (tv' dv' : Value) (T' : List Tm) fr H9, fr.get 5 = some dv' → fr.get 6 = some tv' → fr.get 24 = some ov → fr.get 25 = some (.int .i64 L.length) → fr.get 26 = some (.int .i64 ((j : Int) + 1)) → TdI H1 H9 tv' dv' T' ((dgM M (j + 1)).take 50) → T'.length ≤ j + 1 → (dgM M (j + 1) = [] → T'.map Tm.t0 = tmM M (j + 1)) → (∀ x ∈ T', x.s.length ≤ 16777216 ∧ x.g.length ≤ 16777216 ∧ ∀ t ∈ x.g, t.length ≤ 16777216) → J fr H9 := fun tv' dv' T' fr H9 a1 a2 a3 a4 a5 a6 a7 a8 a9 => hJ _ _ ⟨L.length - (j + 1), by omega, j + 1, tv', dv', T', rfl, by omega, a1, a2, a3, a4, by rw [a5]; rfl, a6, a7, a8, a9⟩
 clear hJ
 by_cases hiT : isT f0 = true
 case neg =>
  have hle : lnErr ln = some f0.c := by unfold lnErr; rw [hf0, if_neg hiT]
  rw [hle] at hdS
  have hone := hone f0.c
  rw [← hdS] at hone
  have hnb : f0.q = true ∨ (f0.q = false ∧ ¬ f0.t = [84, 69, 82, 77]) := by
   cases hq : f0.q with
   | true => exact .inl rfl
   | false => exact .inr ⟨rfl, fun e => hiT (by unfold isT; rw [hq, e]; decide)⟩
  rcases hnb with hb | ⟨hb, hb2⟩
  all_goals
   first | (have hb3 := eq_false hb2) | (have hb3 : True := trivial)
   have fd2' := fd2
   rw [hb] at fd2'
   repeat' (first | (exfalso; omega) | refine zn ?_ | refine zK rfl ?_ | refine zP rfl ?_ | ((first | refine zm ?_ | skip); intro _; intros; simp (disch := first | exact zd | fail) only [↓yS, yT, gresults, gone, ↓reduceIte, Nat.reduceEqDiff, Nat.reduceAdd, Nat.reduceMul, reduceCtorEq, Int.reduceToNat, g11, f5, f6, f24, f25, f26, hslL.ia, e1, hlv, hslw.ia, ef, hgf', hz, fd0, fd1, fd2', hTm', hTm2, hb3, decide_false]; first | (rename_i K k; (first | refine yC (k _ _ ?_) | refine zg (k _ ?_)); clear k K) | (rename_i A B C D a b c d; (first | refine zx (a ?_) | refine zy (b ?_) | refine zz (fun hc => c ?_) (fun hc => d ?_) | refine zv (b ?_) | refine zw (a ?_)) <;> clear a b c d A B C D <;> try simp only [yL] at hc)) | refine zA ?_ | refine zB ?_ | refine zF ?_)
   generalize (((((H2.add (some (.cells [.int .i64 0, .slice none 0 0] 0 true))).put H2.len (.cells [.int .i64 ln.n, wv] 0 true)).add (some (.cells [.string ⟨#[]⟩, .int .i64 0, .bool false] 0 true))).put (H2.len + 1) (.cells (fdC f0) 0 true)).add (some (.cells [.int .i64 0, .int .i64 0, .int .i64 0] 0 true))).put (H2.len + 1 + 1) (.cells [.int .i64 ln.n, .int .i64 f0.c, .int .i64 4] 0 true) = HA at *
   have hIA := hI.later hSA
   by_cases h50 : ((dgM M j).take 50).length < 50
   ·rw [if_pos h50] at hone
    repeat' (first | (exfalso; omega) | refine zn ?_ | refine zK rfl ?_ | refine zP rfl ?_ | ((first | refine zm ?_ | skip); intro _; intros; simp (disch := first | exact zd | fail) only [↓yS, yT, gresults, gone, ↓reduceIte, Nat.reduceEqDiff, Nat.reduceAdd, Nat.reduceMul, reduceCtorEq, Int.reduceToNat, g11, f5, f6, f24, f25, f26, hslD.len, hrA]; first | (rename_i K k; (first | refine yC (k _ _ ?_) | refine zg (k _ ?_)); clear k K) | (rename_i A B C D a b c d; (first | refine zx (a ?_) | refine zy (b ?_) | refine zz (fun hc => c ?_) (fun hc => d ?_) | refine zv (b ?_) | refine zw (a ?_)) <;> clear a b c d A B C D <;> try simp only [yL] at hc)) | refine zA ?_ | refine zB ?_ | refine zF ?_)
    rw [dg_cells (a := ln.n) (b := f0.c) (c := 4) (A := (ln.n : Int)) (B := (f0.c : Int)) (C := 4) rfl rfl rfl]
    refine Gw_s fun K' hK' => ?_
    simp (disch := first | exact zd | fail) only [↓yS, yT, ↓reduceIte, Nat.reduceEqDiff, Nat.reduceAdd, Nat.reduceMul, reduceCtorEq, Int.reduceToNat, f5, f6, f24, f25, f26]
    obtain ⟨v2, H4, e, hI4⟩ := hIA.addD ⟨ln.n, f0.c, 4⟩ (by omega)
    refine G1_eq e (hK' _ _ ?_)
    clear hK' K' e
    repeat' (first | (exfalso; omega) | refine zn ?_ | refine zK rfl ?_ | refine zP rfl ?_ | ((first | refine zm ?_ | skip); intro _; intros; simp (disch := first | exact zd | fail) only [↓yS, yT, gresults, gone, ↓reduceIte, Nat.reduceEqDiff, Nat.reduceAdd, Nat.reduceMul, reduceCtorEq, Int.reduceToNat, g11, f5, f6, f24, f25, f26]; first | (rename_i K k; (first | refine yC (k _ _ ?_) | refine zg (k _ ?_)); clear k K) | (rename_i A B C D a b c d; (first | refine zx (a ?_) | refine zy (b ?_) | refine zz (fun hc => c ?_) (fun hc => d ?_) | refine zv (b ?_) | refine zw (a ?_)) <;> clear a b c d A B C D <;> try simp only [yL] at hc)) | refine zA ?_ | refine zB ?_ | refine zF ?_)
    refine hfin tv v2 T _ _ ?_ ?_ ?_ ?_ ?_ (by rw [hone]; exact hI4) (by omega) (fun e => by rw [hdS] at e; simp at e) hTs
    all_goals (simp only [↓yG, Nat.reduceEqDiff, ↓reduceIte, Int.natCast_add, Int.cast_ofNat_Int, Int.natCast_zero, true_and, and_true, Option.some.injEq, Value.int.injEq, f5, f6, f24, f25, f26])
   ·rw [if_neg h50] at hone
    repeat' (first | (exfalso; omega) | refine zn ?_ | refine zK rfl ?_ | refine zP rfl ?_ | ((first | refine zm ?_ | skip); intro _; intros; simp (disch := first | exact zd | fail) only [↓yS, yT, gresults, gone, ↓reduceIte, Nat.reduceEqDiff, Nat.reduceAdd, Nat.reduceMul, reduceCtorEq, Int.reduceToNat, g11, f5, f6, f24, f25, f26, hslD.len]; first | (rename_i K k; (first | refine yC (k _ _ ?_) | refine zg (k _ ?_)); clear k K) | (rename_i A B C D a b c d; (first | refine zx (a ?_) | refine zy (b ?_) | refine zz (fun hc => c ?_) (fun hc => d ?_) | refine zv (b ?_) | refine zw (a ?_)) <;> clear a b c d A B C D <;> try simp only [yL] at hc)) | refine zA ?_ | refine zB ?_ | refine zF ?_)
    refine hfin tv dv T _ _ ?_ ?_ ?_ ?_ ?_ (by rw [hone]; exact hIA) (by omega) (fun e => by rw [hdS] at e; simp at e) hTs
    all_goals (simp only [↓yG, Nat.reduceEqDiff, ↓reduceIte, Int.natCast_add, Int.cast_ofNat_Int, Int.natCast_zero, true_and, and_true, Option.some.injEq, Value.int.injEq, f5, f6, f24, f25, f26])
 have hb : f0.q = false := by
  unfold isT at hiT
  simp only [Bool.and_eq_true, Bool.not_eq_true', decide_eq_true_eq] at hiT
  exact hiT.1
 have hb2 : f0.t = [84, 69, 82, 77] := by
  unfold isT at hiT
  simp only [Bool.and_eq_true, Bool.not_eq_true', decide_eq_true_eq] at hiT
  exact hiT.2
 have hb3 := eq_true hb2
 have fd2' := fd2
 rw [hb] at fd2'
 repeat' (first | (exfalso; omega) | refine zn ?_ | refine zK rfl ?_ | refine zP rfl ?_ | ((first | refine zm ?_ | skip); intro _; intros; simp (disch := first | exact zd | fail) only [↓yS, yT, gresults, gone, ↓reduceIte, Nat.reduceEqDiff, Nat.reduceAdd, Nat.reduceMul, reduceCtorEq, Int.reduceToNat, g11, f5, f6, f24, f25, f26, hslL.ia, e1, hlv, hslw.ia, ef, hgf', hz, fd0, fd1, fd2', hTm', hTm2, hb3, decide_true]; first | (rename_i K k; (first | refine yC (k _ _ ?_) | refine zg (k _ ?_)); clear k K) | (rename_i A B C D a b c d; (first | refine zx (a ?_) | refine zy (b ?_) | refine zz (fun hc => c ?_) (fun hc => d ?_) | refine zv (b ?_) | refine zw (a ?_)) <;> clear a b c d A B C D <;> try simp only [yL] at hc)) | refine zA ?_ | refine zB ?_ | refine zF ?_)
 generalize (((((H2.add (some (.cells [.int .i64 0, .slice none 0 0] 0 true))).put H2.len (.cells [.int .i64 ln.n, wv] 0 true)).add (some (.cells [.string ⟨#[]⟩, .int .i64 0, .bool false] 0 true))).put (H2.len + 1) (.cells (fdC f0) 0 true)).add (some (.cells [.int .i64 0, .int .i64 0, .int .i64 0] 0 true))).put (H2.len + 1 + 1) (.cells [.int .i64 ln.n, .int .i64 f0.c, .int .i64 4] 0 true) = HA at *
 have hwA := hSA.wf
 have hfA := GArg1.same hfr hw2 hSA
 refine Gw_s fun K' hK' => G1_call (by simp only [gtarget, ↓GArg.ev, ↓evs, ↓Tr.get_set, Nat.reduceEqDiff, if_true, if_false, ↓reduceIte, Option.map_some, f5, f6, f24, f25, f26]; rfl) (Scan_ok hwA (n := ln.n) hfA (by have := hs1.1; omega)) fun r3 H3 hq => hK' _ _ ?_
 obtain ⟨sc, rfl, hsc, hSs, hlsc⟩ := hq
 have hS3 := hSA.trans hSs
 have hmA3 : H3.mine (H2.len + 1 + 1) = some (dgC ⟨ln.n, f0.c, 4⟩, 0) := by rw [hSs.mine (by omega)]; exact hmA
 repeat' (first | (exfalso; omega) | refine zn ?_ | refine zK rfl ?_ | refine zP rfl ?_ | ((first | refine zm ?_ | skip); intro _; intros; simp (disch := first | exact zd | fail) only [↓yS, yT, gresults, gone, ↓reduceIte, Nat.reduceEqDiff, Nat.reduceAdd, Nat.reduceMul, reduceCtorEq, Int.reduceToNat, g11, f5, f6, f24, f25, f26]; first | (rename_i K k; (first | refine yC (k _ _ ?_) | refine zg (k _ ?_)); clear k K) | (rename_i A B C D a b c d; (first | refine zx (a ?_) | refine zy (b ?_) | refine zz (fun hc => c ?_) (fun hc => d ?_) | refine zv (b ?_) | refine zw (a ?_)) <;> clear a b c d A B C D <;> try simp only [yL] at hc)) | refine zA ?_ | refine zB ?_ | refine zF ?_)
 refine Gw_s fun K' hK' => G1_call (by simp only [gtarget, ↓GArg.ev, ↓evs, ↓Tr.get_set, Nat.reduceEqDiff, if_true, if_false, ↓reduceIte, Option.map_some, f5, f6, f24, f25, f26]; rfl) (word_take hS3.wf hsc) fun r4 H4 hq => hK' _ _ ?_
 obtain ⟨rfl, hsc4, hB4⟩ := hq
 have htk0 : tkF ln.f false 0 none = (f0.t, true, 1, none) := by
  simp only [tkF]
  rw [if_pos (by omega), hf0, if_pos hb]
 rw [htk0] at hsc4
 dsimp only at hsc4
 have hS4 := hB4.same hS3 (fun k hk e => by have := hSA.len; omega)
 have hmA4 : H4.mine (H2.len + 1 + 1) = some (dgC ⟨ln.n, f0.c, 4⟩, 0) := by rw [hB4.mine (by have := hSs.len; omega) (by omega)]; exact hmA3
 repeat' (first | (exfalso; omega) | refine zn ?_ | refine zK rfl ?_ | refine zP rfl ?_ | ((first | refine zm ?_ | skip); intro _; intros; simp (disch := first | exact zd | fail) only [↓yS, yT, gresults, gone, ↓reduceIte, Nat.reduceEqDiff, Nat.reduceAdd, Nat.reduceMul, reduceCtorEq, Int.reduceToNat, g11, f5, f6, f24, f25, f26]; first | (rename_i K k; (first | refine yC (k _ _ ?_) | refine zg (k _ ?_)); clear k K) | (rename_i A B C D a b c d; (first | refine zx (a ?_) | refine zy (b ?_) | refine zz (fun hc => c ?_) (fun hc => d ?_) | refine zv (b ?_) | refine zw (a ?_)) <;> clear a b c d A B C D <;> try simp only [yL] at hc)) | refine zA ?_ | refine zB ?_ | refine zF ?_)
 refine Gw_s fun K' hK' => G1_call (by simp only [gtarget, ↓GArg.ev, ↓evs, ↓Tr.get_set, Nat.reduceEqDiff, if_true, if_false, ↓reduceIte, Option.map_some, f5, f6, f24, f25, f26]; rfl) (quoted_take hS4.wf hsc4) fun r5 H5 hq => hK' _ _ ?_
 obtain ⟨rfl, hsc5, hB5⟩ := hq
 have hS5 := hB5.same hS4 (fun k hk e => by have := hSA.len; omega)
 have hl4 := hB4.len
 have hl3 := hSs.len
 have hmA5 : H5.mine (H2.len + 1 + 1) = some (dgC ⟨ln.n, f0.c, 4⟩, 0) := by rw [hB5.mine (by omega) (by omega)]; exact hmA4
 have hle5 := hsc5.le
 repeat' (first | (exfalso; omega) | refine zn ?_ | refine zK rfl ?_ | refine zP rfl ?_ | ((first | refine zm ?_ | skip); intro _; intros; simp (disch := first | exact zd | fail) only [↓yS, yT, gresults, gone, ↓reduceIte, Nat.reduceEqDiff, Nat.reduceAdd, Nat.reduceMul, reduceCtorEq, Int.reduceToNat, g11, f5, f6, f24, f25, f26]; first | (rename_i K k; (first | refine yC (k _ _ ?_) | refine zg (k _ ?_)); clear k K) | (rename_i A B C D a b c d; (first | refine zx (a ?_) | refine zy (b ?_) | refine zz (fun hc => c ?_) (fun hc => d ?_) | refine zv (b ?_) | refine zw (a ?_)) <;> clear a b c d A B C D <;> try simp only [yL] at hc)) | refine zA ?_ | refine zB ?_ | refine zF ?_)
 refine Gw_s fun K' hK' => G1_call (by simp only [gtarget, ↓GArg.ev, ↓evs, ↓Tr.get_set, Nat.reduceEqDiff, if_true, if_false, ↓reduceIte, Option.map_some, f5, f6, f24, f25, f26]; rfl) (quoted_take hS5.wf hsc5) fun r6 H6 hq => hK' _ _ ?_
 obtain ⟨rfl, hsc6, hB6⟩ := hq
 have hS6 := hB6.same hS5 (fun k hk e => by have := hSA.len; omega)
 have hl5 := hB5.len
 have hl6 := hB6.len
 have hmA6 : H6.mine (H2.len + 1 + 1) = some (dgC ⟨ln.n, f0.c, 4⟩, 0) := by rw [hB6.mine (by omega) (by omega)]; exact hmA5
 have hPI := PI.start hs1 (by omega)
 generalize (tkF ln.f true 1 none).1 = t1 at *
 generalize (tkF ln.f true (tkF ln.f true 1 none).2.2.1 (tkF ln.f true 1 none).2.2.2).1 = t2 at *
 generalize (tkF ln.f true (tkF ln.f true 1 none).2.2.1 (tkF ln.f true 1 none).2.2.2).2.2.1 = k0 at *
 generalize (tkF ln.f true (tkF ln.f true 1 none).2.2.1 (tkF ln.f true 1 none).2.2.2).2.2.2 = e0 at *
 have hw6 := hS6.wf
 have hlim6 := hw6.1
 have hlim2e : H6.lim = H2.lim := hS6.lim
 have hbt : fillL [.string ⟨#[]⟩, .slice none 0 0] [(0, 1, .string (strB t1)), (1, 1, .slice (some ⟨H6.len, 0, none⟩) 1 2)] = some [.string (strB t1), .slice (some ⟨H6.len, 0, none⟩) 1 2] := by
  rw [fillL_set _ _ (by simp [flatV])]; rfl
 have hg13 : gsetn [.string ⟨#[]⟩, .slice none 0 0] 0 2 (.agg #[.string (strB t1), .slice (some ⟨H6.len, 0, none⟩) 1 2]) = some [.string (strB t1), .slice (some ⟨H6.len, 0, none⟩) 1 2] := gsetn_all rfl rfl (by simp [flatV])
 repeat' (first | (exfalso; omega) | refine zn ?_ | refine zK rfl ?_ | refine zP rfl ?_ | ((first | refine zm ?_ | skip); intro _; intros; simp (disch := first | exact zd | fail) only [↓yS, yT, gresults, gone, ↓reduceIte, Nat.reduceEqDiff, Nat.reduceAdd, Nat.reduceMul, reduceCtorEq, Int.reduceToNat, g11, f5, f6, f24, f25, f26, hbt, hg13]; first | (rename_i K k; (first | refine yC (k _ _ ?_) | refine zg (k _ ?_)); clear k K) | (rename_i A B C D a b c d; (first | refine zx (a ?_) | refine zy (b ?_) | refine zz (fun hc => c ?_) (fun hc => d ?_) | refine zv (b ?_) | refine zw (a ?_)) <;> clear a b c d A B C D <;> try simp only [yL] at hc)) | refine zA ?_ | refine zB ?_ | refine zF ?_)
 have hrow2 : (List.take 0 (zeros [.string ⟨#[]⟩] 1) ++ (Value.string (strB t2)).cells.toList ++ List.drop 1 (zeros [.string ⟨#[]⟩] 1)) = strs [t2] := rfl
 rw [hrow2]
 have hscl : sc < H6.len := by
  obtain ⟨_, _, hm, _⟩ := hsc6.ex
  exact mine_lt hw6 hm
 have hOg : OS 1 1 H2 (H6.add (some (.cells (strs [t2]) 1 true))) (.slice (some ⟨H6.len, 0, none⟩) 1 2) 1 (strs [t2]) := OS.made' hS6 rfl
 have hwR := hOg.same.wf
 have hSR : Same (H6.add (some (.cells (strs [t2]) 1 true))) (((H6.add (some (.cells (strs [t2]) 1 true))).add (some (.cells [.string ⟨#[]⟩, .slice none 0 0] 0 true))).put (H6.len + 1) (.cells [.string (strB t1), .slice (some ⟨H6.len, 0, none⟩) 1 2] 0 true)) := (Same.refl hwR).new _ _
 have hSB : Same H6 (((H6.add (some (.cells (strs [t2]) 1 true))).add (some (.cells [.string ⟨#[]⟩, .slice none 0 0] 0 true))).put (H6.len + 1) (.cells [.string (strB t1), .slice (some ⟨H6.len, 0, none⟩) 1 2] 0 true)) := ((Same.refl hw6).add _).trans hSR
 have hmB13 : (((H6.add (some (.cells (strs [t2]) 1 true))).add (some (.cells [.string ⟨#[]⟩, .slice none 0 0] 0 true))).put (H6.len + 1) (.cells [.string (strB t1), .slice (some ⟨H6.len, 0, none⟩) 1 2] 0 true)).mine (H6.len + 1) = some ([.string (strB t1), .slice (some ⟨H6.len, 0, none⟩) 1 2], 0) := mine_put_same (by simp only [lim_put, lim_add]; omega)
 have hOgB := hOg.later hSR
 generalize (((H6.add (some (.cells (strs [t2]) 1 true))).add (some (.cells [.string ⟨#[]⟩, .slice none 0 0] 0 true))).put (H6.len + 1) (.cells [.string (strB t1), .slice (some ⟨H6.len, 0, none⟩) 1 2] 0 true)) = HB at *
 generalize (Value.slice (some ⟨H6.len, 0, none⟩) 1 2) = gv0 at *
 have hscB := hsc6.same hw6 hSB
 have hmAB : HB.mine (H2.len + 1 + 1) = some (dgC ⟨ln.n, f0.c, 4⟩, 0) := by rw [hSB.mine (by omega)]; exact hmA6
 generalize hw13 : H6.len + 1 = a13 at *
 clear hOg hSR hwR
 refine GW_loop (fun m fr H7 => ∃ (k : Nat) (e : Option Nat) (g : List (List UInt8)) (gv : Value), m = (if e = none then ln.f.length - k + 1 else 0) ∧ fr.get 5 = some (dv) ∧ fr.get 6 = some (tv) ∧ fr.get 10 = some (ptr (H2.len + 1 + 1)) ∧ fr.get 12 = some (ptr sc) ∧ fr.get 13 = some (ptr a13) ∧ fr.get 24 = some (ov) ∧ fr.get 25 = some (.int .i64 L.length) ∧ fr.get 26 = some (.int .i64 j) ∧ ScAt H7 sc ln.n ln.f k e ∧ H7.mine (H2.len + 1 + 1) = some (dgC ⟨ln.n, f0.c, 4⟩, 0) ∧ H7.mine a13 = some ([.string (strB t1), gv], 0) ∧ OS 1 1 H2 H7 gv g.length (strs g) ∧ PI ln.f k e t1 g) ?_ (if e0 = none then ln.f.length - k0 + 1 else 0) ?_
 rotate_left
 ·refine ⟨k0, e0, [t2], gv0, rfl, ?_⟩
  simp only [↓yG, Nat.reduceEqDiff, ↓reduceIte, Int.natCast_add, Int.cast_ofNat_Int, Int.natCast_zero, true_and, and_true, Option.some.injEq, Value.int.injEq, f5, f6, f24, f25, f26]
  exact ⟨hscB, hmAB, hmB13, hOgB, hPI⟩
 rintro m fr H7 ⟨k, e, g, gv, rfl, i5, i6, i10, i12, i13, i24, i25, i26, hsc7, hmA7, hm13, hOg7, hPI7⟩ J2 hJ2
 have hS7 := hOg7.same
 have hw7 := hS7.wf
 have hle7 := hsc7.le
 have hlt13 := mine_lt hw7 hm13
 repeat' (first | (exfalso; omega) | refine zn ?_ | refine zK rfl ?_ | refine zP rfl ?_ | ((first | refine zm ?_ | skip); intro _; intros; simp (disch := first | exact zd | fail) only [↓yS, yT, gresults, gone, ↓reduceIte, Nat.reduceEqDiff, Nat.reduceAdd, Nat.reduceMul, reduceCtorEq, Int.reduceToNat, g11, i5, i6, i10, i12, i13, i24, i25, i26]; first | (rename_i K k; (first | refine yC (k _ _ ?_) | refine zg (k _ ?_)); clear k K) | (rename_i A B C D a b c d; (first | refine zx (a ?_) | refine zy (b ?_) | refine zz (fun hc => c ?_) (fun hc => d ?_) | refine zv (b ?_) | refine zw (a ?_)) <;> clear a b c d A B C D <;> try simp only [yL] at hc)) | refine zA ?_ | refine zB ?_ | refine zF ?_)
 refine Gw_s fun K' hK' => G1_call (by simp only [gtarget, ↓GArg.ev, ↓evs, ↓Tr.get_set, Nat.reduceEqDiff, if_true, if_false, ↓reduceIte, Option.map_some, i5, i6, i10, i12, i13, i24, i25, i26]; rfl) (left_ok hsc7) fun r8 H8 hq8 => hK' _ _ ?_
 obtain ⟨rfl, rfl⟩ := hq8
 by_cases hgo : e = none ∧ k < ln.f.length
 ·obtain ⟨rfl, hkl⟩ := hgo
  rw [if_pos rfl]
  repeat' (first | (exfalso; omega) | refine zn ?_ | refine zK rfl ?_ | refine zP rfl ?_ | ((first | refine zm ?_ | skip); intro _; intros; simp (disch := first | exact zd | fail) only [↓yS, yT, gresults, gone, ↓reduceIte, Nat.reduceEqDiff, Nat.reduceAdd, Nat.reduceMul, reduceCtorEq, Int.reduceToNat, g11, i5, i6, i10, i12, i13, i24, i25, i26]; first | (rename_i K k; (first | refine yC (k _ _ ?_) | refine zg (k _ ?_)); clear k K) | (rename_i A B C D a b c d; (first | refine zx (a ?_) | refine zy (b ?_) | refine zz (fun hc => c ?_) (fun hc => d ?_) | refine zv (b ?_) | refine zw (a ?_)) <;> clear a b c d A B C D <;> try simp only [yL] at hc)) | refine zA ?_ | refine zB ?_ | refine zF ?_)
  obtain ⟨fvs, las, hms, hfs, has⟩ := hsc7.ex
  refine GW_hide (v := ptr sc) (i := sc) (by simp only [↓GArg.ev, ↓yG, Nat.reduceEqDiff, ↓reduceIte, i12]) rfl (mine_lt hw7 hms) hms ?_
  have hobs := (mine_obj hms).2
  have hrdd : (H8.put sc (.dead 0)).rd a13 1 = some gv := by rw [rd_put_ne (by omega)]; exact mine_rd hm13
  repeat' (first | (exfalso; omega) | refine zn ?_ | refine zK rfl ?_ | refine zP rfl ?_ | ((first | refine zm ?_ | skip); intro _; intros; simp (disch := first | exact zd | fail) only [↓yS, yT, gresults, gone, ↓reduceIte, Nat.reduceEqDiff, Nat.reduceAdd, Nat.reduceMul, reduceCtorEq, Int.reduceToNat, g11, i5, i6, i10, i12, i13, i24, i25, i26, ptr, hrdd]; first | (rename_i K k; (first | refine yC (k _ _ ?_) | refine zg (k _ ?_)); clear k K) | (rename_i A B C D a b c d; (first | refine zx (a ?_) | refine zy (b ?_) | refine zz (fun hc => c ?_) (fun hc => d ?_) | refine zv (b ?_) | refine zw (a ?_)) <;> clear a b c d A B C D <;> try simp only [yL] at hc)) | refine zA ?_ | refine zB ?_ | refine zF ?_)
  have hput : (H8.put sc (.dead 0)).put sc (.cells (scC ln.n fvs k las none) 0 true) = H8 := by rw [put_put]; exact put_self hobs
  rw [hput]
  refine Gp_c (by simp only [gtarget, ↓GArg.ev, ↓evs, ↓Tr.get_set, Nat.reduceEqDiff, if_true, if_false, ↓reduceIte, Option.map_some, i12]; rfl) (quoted_take hw7 hsc7) ?_ fun r9 H9 hq9 => ?_
  ·exact fun v H' h i hi hni => h.2.2.obj i hi fun e => hni (by simp [e])
  obtain ⟨rfl, hsc9, hB9⟩ := hq9
  have hS9 := hB9.same hS7 (fun q hq e => by have := hSA.len; omega)
  have hOg9 := hOg7.but hB9 (fun q hq e => by have := hSA.len; omega) (fun a ha e => unit_no hOg7 (a := sc) hms (by decide) (e ▸ ha))
  have hmA9 : H9.mine (H2.len + 1 + 1) = some (dgC ⟨ln.n, f0.c, 4⟩, 0) := by rw [hB9.mine (mine_lt hw7 hmA7) (by omega)]; exact hmA7
  have hm13_9 : H9.mine a13 = some ([.string (strB t1), gv], 0) := by rw [hB9.mine hlt13 (by omega)]; exact hm13
  have hPI9 := hPI7.step hs1 hkl
  have hg9 := hPI9.sm.2.1
  rw [List.length_append] at hg9
  simp only [List.length_cons, List.length_nil] at hg9
  have hk9 := hsc9.le
  have hdec : (if (tkF ln.f true k none).2.2.2 = none then ln.f.length - (tkF ln.f true k none).2.2.1 + 1 else 0) < (if (none : Option Nat) = none then ln.f.length - k + 1 else 0) := by
   rw [if_pos rfl]
   rcases tk_cases (Nat.le_of_lt hkl) with ⟨_, _, g3⟩ | ⟨c, g3, _⟩
   ·rw [g3, if_pos rfl]; simp only; omega
   ·rw [g3, if_neg (by simp)]; omega
  generalize (tkF ln.f true k none).1 = tx at *
  generalize (tkF ln.f true k none).2.2.1 = k9 at *
  generalize (tkF ln.f true k none).2.2.2 = e9 at *
  have hw9 := hS9.wf
  refine Gp_t (by simp [aims, target]) fun K' hK' => ?_
  simp (disch := first | exact zd | fail) only [↓yS, yT, ↓reduceIte, Nat.reduceEqDiff, Nat.reduceAdd, Nat.reduceMul, reduceCtorEq, Int.reduceToNat, i13]
  refine G1_go (hK' _ _ ?_)
  clear hK' K'
  have hrow9 : (List.take 0 (zeros [.string ⟨#[]⟩] 1) ++ (Value.string (strB tx)).cells.toList ++ List.drop 1 (zeros [.string ⟨#[]⟩] 1)) = strs [tx] := rfl
  rw [hrow9]
  obtain ⟨v10, H10, e10, hO10, hB10⟩ := hOg9.app1 (b := 16) (by decide) (by decide) (news := strs [tx]) rfl (by omega) (by omega)
  refine Gp_s fun K' hK' => ?_
  simp (disch := first | exact zd | fail) only [↓yS, yT, ↓reduceIte, Nat.reduceEqDiff, Nat.reduceAdd, Nat.reduceMul, reduceCtorEq, Int.reduceToNat, i13]
  refine G1_eq e10 (hK' _ _ ?_)
  clear hK' K' e10
  have hS10 := hO10.same
  have hw10 := hS10.wf
  have hvy : ∀ q, q < H2.len → ¬ q ∈ idOf gv := fun q hq ha => by have := (hOg9.ids ha).1; omega
  have hmA10 : H10.mine (H2.len + 1 + 1) = some (dgC ⟨ln.n, f0.c, 4⟩, 0) := by rw [hB10.mine (mine_lt hw9 hmA9) (unit_no hOg9 hmA9 (by decide))]; exact hmA9
  have hm13_10 : H10.mine a13 = some ([.string (strB t1), gv], 0) := by rw [hB10.mine (mine_lt hw9 hm13_9) (unit_no hOg9 hm13_9 (by decide))]; exact hm13_9
  have hsc10 : ScAt H10 sc ln.n ln.f k9 e9 := by
   obtain ⟨fw, lw, hmw, _⟩ := hsc9.ex
   exact hsc9.but hw9 hB10 (unit_no hOg9 hmw (by decide)) fun a cs hm => unit_no hOg9 hm (by decide)
  have hlt13_10 := mine_lt hw10 hm13_10
  have hlm10 := (mine_obj hm13_10).1
  have hBs : But (fun q => q = a13) H10 (H10.put a13 (.cells [.string (strB t1), v10] 0 true)) := (But.refl (S := fun q => q = a13) hw10).put rfl hlt13_10 _
  have hlen6 := hS6.len
  have hsc11 : ScAt (H10.put a13 (.cells [.string (strB t1), v10] 0 true)) sc ln.n ln.f k9 e9 := hsc10.but hw10 hBs (by omega) (mine_no hm13_10 (by decide))
  have hmA11 : (H10.put a13 (.cells [.string (strB t1), v10] 0 true)).mine (H2.len + 1 + 1) = some (dgC ⟨ln.n, f0.c, 4⟩, 0) := by rw [hBs.mine (mine_lt hw10 hmA10) (by omega)]; exact hmA10
  have hm13_11 : (H10.put a13 (.cells [.string (strB t1), v10] 0 true)).mine a13 = some ([.string (strB t1), v10], 0) := mine_put_same hlm10
  have hO11 : OS 1 1 H2 (H10.put a13 (.cells [.string (strB t1), v10] 0 true)) v10 (g ++ [tx]).length (strs (g ++ [tx])) := by
   have h1 : strs (g ++ [tx]) = strs g ++ strs [tx] := by simp [strs]
   rw [h1, List.length_append]
   exact hO10.but hBs (fun q hq e => by omega) fun a ha e => unit_no hO10 hm13_10 (by decide) (e ▸ ha)
  repeat' (first | (exfalso; omega) | refine zn ?_ | refine zK rfl ?_ | refine zP rfl ?_ | ((first | refine zm ?_ | skip); intro _; intros; simp (disch := first | exact zd | fail) only [↓yS, yT, gresults, gone, ↓reduceIte, Nat.reduceEqDiff, Nat.reduceAdd, Nat.reduceMul, reduceCtorEq, Int.reduceToNat, g11, i5, i6, i10, i12, i13, i24, i25, i26]; first | (rename_i K k; (first | refine yC (k _ _ ?_) | refine zg (k _ ?_)); clear k K) | (rename_i A B C D a b c d; (first | refine zx (a ?_) | refine zy (b ?_) | refine zz (fun hc => c ?_) (fun hc => d ?_) | refine zv (b ?_) | refine zw (a ?_)) <;> clear a b c d A B C D <;> try simp only [yL] at hc)) | refine zA ?_ | refine zB ?_ | refine zF ?_)
  refine Gp_0 fun K' hK' => ?_
  have hgs : gset [.string (strB t1), gv] 1 v10 = some [.string (strB t1), v10] := by simp [gset, hO10.flat]
  simp (disch := first | exact zd | fail) only [↓yS, yT, ↓reduceIte, Nat.reduceEqDiff, Nat.reduceAdd, Nat.reduceMul, reduceCtorEq, Int.reduceToNat, i5, i6, i10, i12, i13, i24, i25, i26, hm13_10, hgs]
  refine G1_go (hK' _ _ ?_)
  clear hK' K'
  repeat' (first | (exfalso; omega) | refine zn ?_ | refine zK rfl ?_ | refine zP rfl ?_ | ((first | refine zm ?_ | skip); intro _; intros; simp (disch := first | exact zd | fail) only [↓yS, yT, gresults, gone, ↓reduceIte, Nat.reduceEqDiff, Nat.reduceAdd, Nat.reduceMul, reduceCtorEq, Int.reduceToNat, g11, i5, i6, i10, i12, i13, i24, i25, i26]; first | (rename_i K k; (first | refine yC (k _ _ ?_) | refine zg (k _ ?_)); clear k K) | (rename_i A B C D a b c d; (first | refine zx (a ?_) | refine zy (b ?_) | refine zz (fun hc => c ?_) (fun hc => d ?_) | refine zv (b ?_) | refine zw (a ?_)) <;> clear a b c d A B C D <;> try simp only [yL] at hc)) | refine zA ?_ | refine zB ?_ | refine zF ?_)
  refine hJ2 _ _ ⟨(if e9 = none then ln.f.length - k9 + 1 else 0), hdec, k9, e9, g ++ [tx], v10, rfl, ?_⟩
  simp only [↓yG, Nat.reduceEqDiff, ↓reduceIte, Int.natCast_add, Int.cast_ofNat_Int, Int.natCast_zero, true_and, and_true, Option.some.injEq, Value.int.injEq, i5, i6, i10, i12, i13, i24, i25, i26]
  exact ⟨hsc11, hmA11, hm13_11, hO11, hPI9⟩
 have hke : e = none → k = ln.f.length := fun he => Nat.le_antisymm hle7 (Nat.le_of_not_lt fun h => hgo ⟨he, h⟩)
 have h0 : (if e = none then ln.f.length - k else 0) = 0 := by
  split
  ·rename_i he; have := hke he; omega
  ·rfl
 rw [h0]
 have hlen6 := hS6.len
 repeat' (first | (exfalso; omega) | refine zn ?_ | refine zK rfl ?_ | refine zP rfl ?_ | ((first | refine zm ?_ | skip); intro _; intros; simp (disch := first | exact zd | fail) only [↓yS, yT, gresults, gone, ↓reduceIte, Nat.reduceEqDiff, Nat.reduceAdd, Nat.reduceMul, reduceCtorEq, Int.reduceToNat, g11, i5, i6, i10, i12, i13, i24, i25, i26]; first | (rename_i K k; (first | refine yC (k _ _ ?_) | refine zg (k _ ?_)); clear k K) | (rename_i A B C D a b c d; (first | refine zx (a ?_) | refine zy (b ?_) | refine zz (fun hc => c ?_) (fun hc => d ?_) | refine zv (b ?_) | refine zw (a ?_)) <;> clear a b c d A B C D <;> try simp only [yL] at hc)) | refine zA ?_ | refine zB ?_ | refine zF ?_)
 refine Gw_s fun K' hK' => G1_call (by simp only [gtarget, ↓GArg.ev, ↓evs, ↓Tr.get_set, Nat.reduceEqDiff, if_true, if_false, ↓reduceIte, Option.map_some, i5, i6, i10, i12, i13, i24, i25, i26]; rfl) (end_ok hw7 hsc7 hke) fun r9 H9 hq9 => hK' _ _ ?_
 obtain ⟨hr9, hS9⟩ := hq9
 obtain ⟨dd, bb, hr9e, hdd⟩ : ∃ (dd : Dg) (bb : Bool), r9 = .tuple #[dgV dd, .bool bb] ∧ ((bb = true ∧ ∃ c, e = some c ∧ dd = ⟨ln.n, c, 4⟩) ∨ (bb = false ∧ e = none)) := by
  cases e with
  | none => exact ⟨⟨0, 0, 0⟩, false, hr9, .inr ⟨rfl, rfl⟩⟩
  | some c => exact ⟨_, true, hr9, .inl ⟨rfl, _, rfl, rfl⟩⟩
 subst hr9e
 clear hr9
 have hw9 := hS9.wf
 have hmA9 : H9.mine (H2.len + 1 + 1) = some (dgC ⟨ln.n, f0.c, 4⟩, 0) := by rw [hS9.mine (mine_lt hw7 hmA7)]; exact hmA7
 have hm13_9 : H9.mine a13 = some ([.string (strB t1), gv], 0) := by rw [hS9.mine hlt13]; exact hm13
 have hltA := mine_lt hw9 hmA9
 have hlmA := (mine_obj hmA9).1
 have hgd : gsetn (dgC ⟨ln.n, f0.c, 4⟩) 0 3 (dgV dd) = some (dgC dd) := gsetn_all rfl rfl (by
  show ([.int .i64 dd.l, .int .i64 dd.c, .int .i64 dd.e] : List Value).all flatV = true
  simp [flatV])
 have hBd : But (fun q => q = H2.len + 1 + 1) H9 (H9.put (H2.len + 1 + 1) (.cells (dgC dd) 0 true)) := (But.refl (S := fun q => q = H2.len + 1 + 1) hw9).put rfl hltA _
 have hSd : Same H2 (H9.put (H2.len + 1 + 1) (.cells (dgC dd) 0 true)) := (hS7.trans hS9).put (by omega) hltA _
 have hmD : (H9.put (H2.len + 1 + 1) (.cells (dgC dd) 0 true)).mine (H2.len + 1 + 1) = some (dgC dd, 0) := mine_put_same hlmA
 have hr13 : (H9.put (H2.len + 1 + 1) (.cells (dgC dd) 0 true)).rdn a13 0 2 = some (.agg #[.string (strB t1), gv]) := by
  rw [rdn_put_ne (by omega)]
  unfold GHeap.rdn
  rw [mine_cs hm13_9]; rfl
 have hOgd : OS 1 1 H1 (H9.put (H2.len + 1 + 1) (.cells (dgC dd) 0 true)) gv g.length (strs g) := ((hOg7.later hS9).but hBd (fun q hq e => by omega) (fun a ha e => unit_no (hOg7.later hS9) hmA9 (by decide) (e ▸ ha))).weaken hS2
 have hfl := hOg7.flat
 have hft := fill_tmv (t := t1) hfl
 repeat' (first | (exfalso; omega) | refine zn ?_ | refine zK rfl ?_ | refine zP rfl ?_ | ((first | refine zm ?_ | skip); intro _; intros; simp (disch := first | exact zd | fail) only [↓yS, yT, gresults, gone, ↓reduceIte, Nat.reduceEqDiff, Nat.reduceAdd, Nat.reduceMul, reduceCtorEq, Int.reduceToNat, g11, i5, i6, i10, i12, i13, i24, i25, i26, hmA9, hgd, hft]; first | (rename_i K k; (first | refine yC (k _ _ ?_) | refine zg (k _ ?_)); clear k K) | (rename_i A B C D a b c d; (first | refine zx (a ?_) | refine zy (b ?_) | refine zz (fun hc => c ?_) (fun hc => d ?_) | refine zv (b ?_) | refine zw (a ?_)) <;> clear a b c d A B C D <;> try simp only [yL] at hc)) | refine zA ?_ | refine zB ?_ | refine zF ?_)
 generalize H9.put (H2.len + 1 + 1) (.cells (dgC dd) 0 true) = HD at *
 have hID := hI.later hSd
 repeat' (first | (exfalso; omega) | refine zn ?_ | refine zK rfl ?_ | refine zP rfl ?_ | ((first | refine zm ?_ | skip); intro _; intros; simp (disch := first | exact zd | fail) only [↓yS, yT, gresults, gone, ↓reduceIte, Nat.reduceEqDiff, Nat.reduceAdd, Nat.reduceMul, reduceCtorEq, Int.reduceToNat, g11, i5, i6, i10, i12, i13, i24, i25, i26, hr13, hft]; first | (rename_i K k; (first | refine yC (k _ _ ?_) | refine zg (k _ ?_)); clear k K) | (rename_i A B C D a b c d; (first | refine zx (a ?_) | refine zy (b ?_) | refine zz (fun hc => c ?_) (fun hc => d ?_) | refine zv (b ?_) | refine zw (a ?_)) <;> clear a b c d A B C D <;> try simp only [yL] at hc)) | refine zA ?_ | refine zB ?_ | refine zF ?_)
 have hwD := hID.dg.same.wf
 obtain ⟨hsm1, hsm2, hsm3⟩ := hPI7.sm
 obtain ⟨v12, H12, e12, hI12, hB12⟩ := hID.addT (x := ⟨t1, gv, g⟩) hOgd (by omega)
 refine Gw_s fun K' hK' => ?_
 simp (disch := first | exact zd | fail) only [↓yS, yT, ↓reduceIte, Nat.reduceEqDiff, Nat.reduceAdd, Nat.reduceMul, reduceCtorEq, Int.reduceToNat, i5, i6, i10, i12, i13, i24, i25, i26]
 refine G1_eq e12 (hK' _ _ ?_)
 clear hK' K' e12
 have hmD12 : H12.mine (H2.len + 1 + 1) = some (dgC dd, 0) := by rw [hB12.mine (mine_lt hwD hmD) (unit_no hID.out.own hmD (by decide))]; exact hmD
 have hrD : H12.rdn (H2.len + 1 + 1) 0 3 = some (.agg #[.int .i64 dd.l, .int .i64 dd.c, .int .i64 dd.e]) := by
  unfold GHeap.rdn
  rw [mine_cs hmD12]; rfl
 have hslD12 := hI12.dg.rd.isSl
 have hTs' : ∀ x ∈ T ++ [(⟨t1, gv, g⟩ : Tm)], x.s.length ≤ 16777216 ∧ x.g.length ≤ 16777216 ∧ ∀ t ∈ x.g, t.length ≤ 16777216 := fun x hx => by
  rcases List.mem_append.1 hx with hx | hx
  ·exact hTs x hx
  ·rw [List.mem_singleton.1 hx]; exact ⟨hsm1, hsm2, hsm3⟩
 have hle : lnErr ln = errQ 2 (ln.f.drop 1) := by unfold lnErr; rw [hf0, if_pos hiT]
 rw [hle] at hdS
 rcases hdd with ⟨rfl, c, rfl, rfl⟩ | ⟨rfl, rfl⟩
 ·rw [hPI7.bad] at hdS
  have hone := hone c
  rw [← hdS] at hone
  by_cases h50 : ((dgM M j).take 50).length < 50
  ·rw [if_pos h50] at hone
   have hrD' : H12.rdn (H2.len + 1 + 1) 0 3 = some (.agg #[.int .i64 (ln.n : Int), .int .i64 (c : Int), .int .i64 4]) := hrD
   repeat' (first | (exfalso; omega) | refine zn ?_ | refine zK rfl ?_ | refine zP rfl ?_ | ((first | refine zm ?_ | skip); intro _; intros; simp (disch := first | exact zd | fail) only [↓yS, yT, gresults, gone, ↓reduceIte, Nat.reduceEqDiff, Nat.reduceAdd, Nat.reduceMul, reduceCtorEq, Int.reduceToNat, g11, i5, i6, i10, i12, i13, i24, i25, i26, hslD12.len, hrD']; first | (rename_i K k; (first | refine yC (k _ _ ?_) | refine zg (k _ ?_)); clear k K) | (rename_i A B C D a b c d; (first | refine zx (a ?_) | refine zy (b ?_) | refine zz (fun hc => c ?_) (fun hc => d ?_) | refine zv (b ?_) | refine zw (a ?_)) <;> clear a b c d A B C D <;> try simp only [yL] at hc)) | refine zA ?_ | refine zB ?_ | refine zF ?_)
   rw [dg_cells (a := ln.n) (b := c) (c := 4) (A := (ln.n : Int)) (B := (c : Int)) (C := 4) rfl rfl rfl]
   refine Gw_s fun K' hK' => ?_
   simp (disch := first | exact zd | fail) only [↓yS, yT, ↓reduceIte, Nat.reduceEqDiff, Nat.reduceAdd, Nat.reduceMul, reduceCtorEq, Int.reduceToNat, i5, i6, i10, i12, i13, i24, i25, i26]
   obtain ⟨v2, H4, e, hI4⟩ := hI12.addD ⟨ln.n, c, 4⟩ (by omega)
   refine G1_eq e (hK' _ _ ?_)
   clear hK' K' e
   repeat' (first | (exfalso; omega) | refine zn ?_ | refine zK rfl ?_ | refine zP rfl ?_ | ((first | refine zm ?_ | skip); intro _; intros; simp (disch := first | exact zd | fail) only [↓yS, yT, gresults, gone, ↓reduceIte, Nat.reduceEqDiff, Nat.reduceAdd, Nat.reduceMul, reduceCtorEq, Int.reduceToNat, g11, i5, i6, i10, i12, i13, i24, i25, i26]; first | (rename_i K k; (first | refine yC (k _ _ ?_) | refine zg (k _ ?_)); clear k K) | (rename_i A B C D a b c d; (first | refine zx (a ?_) | refine zy (b ?_) | refine zz (fun hc => c ?_) (fun hc => d ?_) | refine zv (b ?_) | refine zw (a ?_)) <;> clear a b c d A B C D <;> try simp only [yL] at hc)) | refine zA ?_ | refine zB ?_ | refine zF ?_)
   refine hfin v12 v2 _ _ _ ?_ ?_ ?_ ?_ ?_ (by rw [hone]; exact hI4) (by simp; omega) (fun e => by rw [hdS] at e; simp at e) hTs'
   all_goals (simp only [↓yG, Nat.reduceEqDiff, ↓reduceIte, Int.natCast_add, Int.cast_ofNat_Int, Int.natCast_zero, true_and, and_true, Option.some.injEq, Value.int.injEq, i5, i6, i10, i12, i13, i24, i25, i26])
  ·rw [if_neg h50] at hone
   repeat' (first | (exfalso; omega) | refine zn ?_ | refine zK rfl ?_ | refine zP rfl ?_ | ((first | refine zm ?_ | skip); intro _; intros; simp (disch := first | exact zd | fail) only [↓yS, yT, gresults, gone, ↓reduceIte, Nat.reduceEqDiff, Nat.reduceAdd, Nat.reduceMul, reduceCtorEq, Int.reduceToNat, g11, i5, i6, i10, i12, i13, i24, i25, i26, hslD12.len]; first | (rename_i K k; (first | refine yC (k _ _ ?_) | refine zg (k _ ?_)); clear k K) | (rename_i A B C D a b c d; (first | refine zx (a ?_) | refine zy (b ?_) | refine zz (fun hc => c ?_) (fun hc => d ?_) | refine zv (b ?_) | refine zw (a ?_)) <;> clear a b c d A B C D <;> try simp only [yL] at hc)) | refine zA ?_ | refine zB ?_ | refine zF ?_)
   refine hfin v12 dv _ _ _ ?_ ?_ ?_ ?_ ?_ (by rw [hone]; exact hI12) (by simp; omega) (fun e => by rw [hdS] at e; simp at e) hTs'
   all_goals (simp only [↓yG, Nat.reduceEqDiff, ↓reduceIte, Int.natCast_add, Int.cast_ofNat_Int, Int.natCast_zero, true_and, and_true, Option.some.injEq, Value.int.injEq, i5, i6, i10, i12, i13, i24, i25, i26])
 ·obtain rfl := hke rfl
  obtain ⟨hz1, hz2, hz3⟩ := hPI7.done
  rw [hz1] at hdS
  simp only [List.append_nil] at hdS
  repeat' (first | (exfalso; omega) | refine zn ?_ | refine zK rfl ?_ | refine zP rfl ?_ | ((first | refine zm ?_ | skip); intro _; intros; simp (disch := first | exact zd | fail) only [↓yS, yT, gresults, gone, ↓reduceIte, Nat.reduceEqDiff, Nat.reduceAdd, Nat.reduceMul, reduceCtorEq, Int.reduceToNat, g11, i5, i6, i10, i12, i13, i24, i25, i26]; first | (rename_i K k; (first | refine yC (k _ _ ?_) | refine zg (k _ ?_)); clear k K) | (rename_i A B C D a b c d; (first | refine zx (a ?_) | refine zy (b ?_) | refine zz (fun hc => c ?_) (fun hc => d ?_) | refine zv (b ?_) | refine zw (a ?_)) <;> clear a b c d A B C D <;> try simp only [yL] at hc)) | refine zA ?_ | refine zB ?_ | refine zF ?_)
  refine hfin v12 dv _ _ _ ?_ ?_ ?_ ?_ ?_ (by rw [hdS]; exact hI12) (by simp; omega) (fun e => ?_) hTs'
  rotate_right
  ·rw [hdS] at e
   rw [List.map_append, hTm e, htS]
   simp [Tm.t0, lnT, hz2, hz3]
  all_goals (simp only [↓yG, Nat.reduceEqDiff, ↓reduceIte, Int.natCast_add, Int.cast_ofNat_Int, Int.natCast_zero, true_and, and_true, Option.some.injEq, Value.int.injEq, i5, i6, i10, i12, i13, i24, i25, i26])
end Go.Gh
