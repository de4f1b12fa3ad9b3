/-
  style's reference, walked: escape, Letters; the markup of a row.
-/
import Derived.Test.YtgbibkkcnkaelaaDoorSyT1
namespace Go.Gh
set_option linter.unusedSimpArgs false
set_option linter.unusedVariables false
open Go.RowKit
set_option maxRecDepth 4000

theorem esc_flat : ∀ l : List Nat, esc (l.flatMap encL) = l.flatMap fun c => esc (encL c)
  | [] => rfl
  | c :: l => by rw [List.flatMap_cons, List.flatMap_cons, esc_app, esc_flat l]
set_option maxRecDepth 100000 in
theorem esc_tab : (REP.all fun c => esc (encL c) == if c == 123 || c == 125 || c == 92 then 92 :: encL c else encL c) = true := by kernel_rfl
theorem esc_chr {c : Nat} (h : c ∈ REP) : esc (encL c) = if c = 123 ∨ c = 125 ∨ c = 92 then 92 :: encL c else encL c := by
  have := List.all_eq_true.1 esc_tab c h
  rw [beq_iff_eq] at this
  rw [this]
  by_cases h1 : c = 123 ∨ c = 125 ∨ c = 92
  · rw [if_pos (by simpa [or_assoc] using h1), if_pos h1]
  · rw [if_neg (by simpa [or_assoc] using h1), if_neg h1]
set_option maxRecDepth 100000 in
theorem rescape_ok {l : List UInt8} (hv : vldB (strB l) = true) (hl : (esc l).length ≤ 4611686018427387904) (H : GHeap) : gev G 62 [.string (strB l)] H = some (.string (strB (esc l)), H) := by
  refine gev_GWP (f := 62) rfl rfl rfl (fun Post hPost => ?_) H
  have hw := root_wf
  have hll := len_le_esc l
  have hlen := rns_len (strB l)
  rw [strB_size] at hlen
  have hmem := vldB_mem hv
  have he : esc l = (rns (strB l)).flatMap fun c => esc (encL c) := by
    rw [← esc_flat, enc_rns hv, strB_data]
  have hnil : ∀ e a, a.length ≤ 4611686018427387904 → gbin .add e (.string (strB a)) (.string ⟨#[92]⟩) = some (.string (strB (a ++ [92]))) := fun e a h => gb_addB (e := e) (a := a) (b := [92]) (by simp only [List.length_cons, List.length_nil]; omega)
  simp only [frameOf, Nat.reduceAdd]
  repeat' (first | refine zA ?_ | refine zB ?_ | refine zC ?_ | refine zD ?_ | refine zE ?_ | refine zF ?_ | refine zG ?_ | refine zH ?_ | refine zI ?_ | refine zJ ?_ | refine zK rfl ?_ | refine zL ?_ | refine zM ?_ | refine zN ?_ | refine zO ?_ | refine zP rfl ?_ | refine zQ ?_ | ((first | refine zR ?_ | refine zS ?_ | refine zT ?_ | skip); intro K k; simp (disch := (first | (simp only [yD2, beq_self_eq_true, Nat.reduceLT, Nat.reduceAdd]; done) | ((fail_if_success (apply Bool.eq_iff_iff.2)); first | omega | (simp only [yD2, beq_self_eq_true, Nat.reduceLT, Nat.reduceAdd] <;> omega)) | fail)) only [↓yS, yT, ↓reduceIte, Nat.reduceEqDiff, Nat.reduceAdd, Nat.reduceMul, reduceCtorEq, Int.reduceToNat, g62]; refine yC (k _ _ ?_); clear k K) | ((first | refine zU ?_ | refine zV ?_ | refine zW ?_); intro A B C D a b c d; simp only [↓yG, Nat.reduceEqDiff, ↓reduceIte, g62]; (first | refine zX (a ?_) | refine zY (b ?_) | refine zZ (fun hc => c ?_) (fun hc => d ?_)) <;> clear a b c d A B C D <;> try simp only [yL] at hc) | (refine yA ?_; intro A a; simp only [↓yG, Nat.reduceEqDiff, ↓reduceIte, g62]; refine yB (a ?_); clear a A) | (refine yD ?_; simp only [gresults, ↓yG, Nat.reduceEqDiff, ↓reduceIte, Option.bind_some, gld_1, gld_n, g62]; refine ⟨_, rfl, ?_⟩; simp only [gone]))
  refine GW_loop (fun k fr H1 => ∃ (done rest : List Nat) (p : Value), k = rest.length ∧ fr.get 3 = some (.string (strB (done.flatMap fun c => esc (encL c)))) ∧ fr.get 7 = some (p) ∧ ItAt H1 p rest ∧ done ++ rest = rns (strB l) ∧ H1.wf) ?_ (rns (strB l)).length ?_
  case refine_2 =>
    refine ⟨[], rns (strB l), .pointer (some ⟨0, 0, none⟩), rfl, ?_⟩
    simp only [↓yG, Nat.reduceEqDiff, ↓reduceIte, Int.natCast_add, Int.cast_ofNat_Int, Int.natCast_zero, true_and, and_true, Option.some.injEq, Value.int.injEq]
    exact ⟨rfl, ItAt.new (H := ⟨.nil, 0, 0⟩) (Nat.le_refl _), rfl, ((Same.refl root_wf).add _).wf⟩
  rintro k fr H1 ⟨done, rest, p, rfl, f3, f7, hI, hd, hw1⟩ J hJ
  cases rest with
  | nil =>
    have hx := hI.nil
    rw [List.append_nil] at hd
    subst hd
    rw [← he] at f3
    repeat' (first | (exfalso; omega) | refine zA ?_ | refine zB ?_ | refine zC ?_ | refine zD ?_ | refine zE ?_ | refine zF ?_ | refine zG ?_ | refine zH ?_ | refine zI ?_ | refine zJ ?_ | refine zK rfl ?_ | refine zL ?_ | refine zM ?_ | refine zN ?_ | refine zO ?_ | refine zP rfl ?_ | refine zQ ?_ | ((first | refine zR ?_ | refine zS ?_ | refine zT ?_ | skip); intro K k; simp (disch := (first | (simp only [yD2, beq_self_eq_true, Nat.reduceLT, Nat.reduceAdd]; done) | ((fail_if_success (apply Bool.eq_iff_iff.2)); first | omega | (simp only [yD2, beq_self_eq_true, Nat.reduceLT, Nat.reduceAdd] <;> omega)) | fail)) only [↓yS, yT, ↓reduceIte, Nat.reduceEqDiff, Nat.reduceAdd, Nat.reduceMul, reduceCtorEq, Int.reduceToNat, g62, f3, f7, hx]; refine yC (k _ _ ?_); clear k K) | ((first | refine zU ?_ | refine zV ?_ | refine zW ?_); intro A B C D a b c d; simp only [↓yG, Nat.reduceEqDiff, ↓reduceIte, g62, f3, f7, hx]; (first | refine zX (a ?_) | refine zY (b ?_) | refine zZ (fun hc => c ?_) (fun hc => d ?_)) <;> clear a b c d A B C D <;> try simp only [yL] at hc) | (refine yA ?_; intro A a; simp only [↓yG, Nat.reduceEqDiff, ↓reduceIte, g62, f3, f7, hx]; refine yB (a ?_); clear a A) | (refine yD ?_; simp only [gresults, ↓yG, Nat.reduceEqDiff, ↓reduceIte, Option.bind_some, gld_1, gld_n, g62, f3, f7, hx]; refine ⟨_, rfl, ?_⟩; simp only [gone]))
    exact hPost _
  | cons c rest =>
    obtain ⟨pos, o, hx, hI', hx'⟩ := hI.cons
    have hc := hmem c (by rw [← hd]; simp)
    have hec := esc_chr hc
    have hel := encL_len hc
    have hle : ((done ++ [c]).flatMap fun c => esc (encL c)).length ≤ (esc l).length := by
      rw [he, ← hd]
      simp only [List.flatMap_append, List.flatMap_cons, List.length_append, List.flatMap_nil, List.length_nil]
      omega
    have hst : ((done ++ [c]).flatMap fun c => esc (encL c)) = (done.flatMap fun c => esc (encL c)) ++ esc (encL c) := by simp
    rw [hst, List.length_append] at hle
    generalize (done.flatMap fun c => esc (encL c)) = d at *
    by_cases h3 : c = 123 ∨ c = 125 ∨ c = 92
    · rw [if_pos h3] at hec
      rw [hec] at hle hst
      simp only [List.length_cons] at hle
      have a1 := fun e => hnil e d (by omega)
      have a2 := fun e => gb_addE (e := e) (a := d ++ [92]) (x := c) (by simp only [List.length_append, List.length_cons, List.length_nil]; omega)
      have hfin : d ++ [92] ++ encL c = d ++ 92 :: encL c := by simp
      have split3 : c = 123 ∨ (¬ c = 123 ∧ c = 125) ∨ (¬ c = 123 ∧ ¬ c = 125 ∧ c = 92) := by omega
      rcases split3 with h4 | h4 | h4
      all_goals
        repeat' (first | (exfalso; omega) | refine zA ?_ | refine zB ?_ | refine zC ?_ | refine zD ?_ | refine zE ?_ | refine zF ?_ | refine zG ?_ | refine zH ?_ | refine zI ?_ | refine zJ ?_ | refine zK rfl ?_ | refine zL ?_ | refine zM ?_ | refine zN ?_ | refine zO ?_ | refine zP rfl ?_ | refine zQ ?_ | ((first | refine zR ?_ | refine zS ?_ | refine zT ?_ | skip); intro K k; simp (disch := (first | (simp only [yD2, beq_self_eq_true, Nat.reduceLT, Nat.reduceAdd]; done) | ((fail_if_success (apply Bool.eq_iff_iff.2)); first | omega | (simp only [yD2, beq_self_eq_true, Nat.reduceLT, Nat.reduceAdd] <;> omega)) | fail)) only [↓yS, yT, ↓reduceIte, Nat.reduceEqDiff, Nat.reduceAdd, Nat.reduceMul, reduceCtorEq, Int.reduceToNat, g62, f3, f7, hx, a1, a2, gcv_str]; refine yC (k _ _ ?_); clear k K) | ((first | refine zU ?_ | refine zV ?_ | refine zW ?_); intro A B C D a b c d; simp only [↓yG, Nat.reduceEqDiff, ↓reduceIte, g62, f3, f7, hx, a1, a2, gcv_str]; (first | refine zX (a ?_) | refine zY (b ?_) | refine zZ (fun hc => c ?_) (fun hc => d ?_)) <;> clear a b c d A B C D <;> try simp only [yL] at hc) | (refine yA ?_; intro A a; simp only [↓yG, Nat.reduceEqDiff, ↓reduceIte, g62, f3, f7, hx, a1, a2, gcv_str]; refine yB (a ?_); clear a A) | (refine yD ?_; simp only [gresults, ↓yG, Nat.reduceEqDiff, ↓reduceIte, Option.bind_some, gld_1, gld_n, g62, f3, f7, hx, a1, a2, gcv_str]; refine ⟨_, rfl, ?_⟩; simp only [gone]))
        refine hJ _ _ ⟨rest.length, by simp, done ++ [c], rest, p, rfl, ?_⟩
        rw [hst, ← hfin]
        simp only [↓yG, Nat.reduceEqDiff, ↓reduceIte, Int.natCast_add, Int.cast_ofNat_Int, Int.natCast_zero, true_and, and_true, Option.some.injEq, Value.int.injEq, f7]
        exact ⟨hI', by rw [← hd]; simp, (But.refl (S := fun z => z = itId p) hw1 |>.put (i := itId p) rfl (hI.lt hw1) o).wf⟩
    · rw [if_neg h3] at hec
      rw [hec] at hle hst
      have a2 := fun e => gb_addE (e := e) (a := d) (x := c) (by omega)
      repeat' (first | (exfalso; omega) | refine zA ?_ | refine zB ?_ | refine zC ?_ | refine zD ?_ | refine zE ?_ | refine zF ?_ | refine zG ?_ | refine zH ?_ | refine zI ?_ | refine zJ ?_ | refine zK rfl ?_ | refine zL ?_ | refine zM ?_ | refine zN ?_ | refine zO ?_ | refine zP rfl ?_ | refine zQ ?_ | ((first | refine zR ?_ | refine zS ?_ | refine zT ?_ | skip); intro K k; simp (disch := (first | (simp only [yD2, beq_self_eq_true, Nat.reduceLT, Nat.reduceAdd]; done) | ((fail_if_success (apply Bool.eq_iff_iff.2)); first | omega | (simp only [yD2, beq_self_eq_true, Nat.reduceLT, Nat.reduceAdd] <;> omega)) | fail)) only [↓yS, yT, ↓reduceIte, Nat.reduceEqDiff, Nat.reduceAdd, Nat.reduceMul, reduceCtorEq, Int.reduceToNat, g62, f3, f7, hx, a2, gcv_str]; refine yC (k _ _ ?_); clear k K) | ((first | refine zU ?_ | refine zV ?_ | refine zW ?_); intro A B C D a b c d; simp only [↓yG, Nat.reduceEqDiff, ↓reduceIte, g62, f3, f7, hx, a2, gcv_str]; (first | refine zX (a ?_) | refine zY (b ?_) | refine zZ (fun hc => c ?_) (fun hc => d ?_)) <;> clear a b c d A B C D <;> try simp only [yL] at hc) | (refine yA ?_; intro A a; simp only [↓yG, Nat.reduceEqDiff, ↓reduceIte, g62, f3, f7, hx, a2, gcv_str]; refine yB (a ?_); clear a A) | (refine yD ?_; simp only [gresults, ↓yG, Nat.reduceEqDiff, ↓reduceIte, Option.bind_some, gld_1, gld_n, g62, f3, f7, hx, a2, gcv_str]; refine ⟨_, rfl, ?_⟩; simp only [gone]))
      refine hJ _ _ ⟨rest.length, by simp, done ++ [c], rest, p, rfl, ?_⟩
      rw [hst]
      simp only [↓yG, Nat.reduceEqDiff, ↓reduceIte, Int.natCast_add, Int.cast_ofNat_Int, Int.natCast_zero, true_and, and_true, Option.some.injEq, Value.int.injEq, f7]
      exact ⟨hI', by rw [← hd]; simp, (But.refl (S := fun z => z = itId p) hw1 |>.put (i := itId p) rfl (hI.lt hw1) o).wf⟩
/-! ### the letters of a style -/
def colS : List UInt8 := [103, 98, 99, 114, 121, 109]
def colB (c : Int) : List UInt8 := if c = 0 then [] else (colS.take c.toNat).drop (c - 1).toNat
def iB (b : Bool) : List UInt8 := if b = true then [105] else []
def uB (b : Bool) : List UInt8 := if b = true then [117] else []
def letB (s : Sy) : List UInt8 := colB s.c ++ iB s.i ++ uB s.u
theorem colB_len {c : Int} : (colB c).length ≤ 6 := by
  unfold colB
  split
  · simp
  · rw [List.length_drop, List.length_take]
    have : colS.length = 6 := rfl
    omega
theorem letB_len (s : Sy) : (letB s).length ≤ 8 := by
  have := colB_len (c := s.c)
  unfold letB iB uB
  simp only [List.length_append]
  split <;> split <;> simp <;> omega
/-! ### what holds behind a part of the code, whatever way was taken -/
theorem GW_cut {call : GCall} {a b : GCode} {ks : List Kt} {R : Fr → GHeap → Prop} {fr : Fr} {H : GHeap} (Q : Fr → GHeap → Prop) (h1 : ∀ J : Fr → GHeap → Prop, (∀ fr H, Q fr H → J fr H) → GW call a (.inv J :: ks) R fr H) (h2 : ∀ fr H, Q fr H → GW call b ks R fr H) : GW call (.seq a b) ks R fr H := by
  refine ⟨gwp_seq (gwp_mono (h1 (fun fr H => GW call b ks R fr H) h2).ok fun e fr H h => ?_)⟩
  cases e
  case normal => exact GW.ok h
  all_goals exact h
theorem writeK_ok {H0 H : GHeap} {b : Nat} {l : List UInt8} (h : Bld H0 H b l) (t : List UInt8) (hn : l.length + t.length ≤ 140737488355328) :
    ∃ r H', gev G 54 [self b, .string (strB t)] H = some (r, H') ∧ (Bld H0 H' b (l ++ t) ∧ ∀ k cs, k ≠ b → H.mine k = some (cs, 0) → H'.mine k = some (cs, 0)) := by
  refine gev_GW (f := 54) rfl fun Post hPost => ?_
  simp only [frameOf, Nat.reduceAdd]
  repeat' (first | refine zA ?_ | refine zB ?_ | refine zC ?_ | refine zD ?_ | refine zE ?_ | refine zF ?_ | refine zG ?_ | refine zH ?_ | refine zI ?_ | refine zJ ?_ | refine zK rfl ?_ | refine zL ?_ | refine zM ?_ | refine zN ?_ | refine zO ?_ | refine zP rfl ?_ | refine zQ ?_ | ((first | refine zR ?_ | refine zS ?_ | refine zT ?_ | skip); intro K k; simp (disch := (first | (simp only [yD2, beq_self_eq_true, Nat.reduceLT, Nat.reduceAdd]; done) | ((fail_if_success (apply Bool.eq_iff_iff.2)); first | omega | (simp only [yD2, beq_self_eq_true, Nat.reduceLT, Nat.reduceAdd] <;> omega)) | fail)) only [↓yS, yT, ↓reduceIte, Nat.reduceEqDiff, Nat.reduceAdd, Nat.reduceMul, reduceCtorEq, Int.reduceToNat, g54]; refine yC (k _ _ ?_); clear k K) | ((first | refine zU ?_ | refine zV ?_ | refine zW ?_); intro A B C D a b c d; simp only [↓yG, Nat.reduceEqDiff, ↓reduceIte, g54]; (first | refine zX (a ?_) | refine zY (b ?_) | refine zZ (fun hc => c ?_) (fun hc => d ?_)) <;> clear a b c d A B C D <;> try simp only [yL] at hc) | (refine yA ?_; intro A a; simp only [↓yG, Nat.reduceEqDiff, ↓reduceIte, g54]; refine yB (a ?_); clear a A) | (refine yD ?_; simp only [gresults, ↓yG, Nat.reduceEqDiff, ↓reduceIte, Option.bind_some, gld_1, gld_n, g54]; refine ⟨_, rfl, ?_⟩; simp only [gone]))
  have hchk : ∃ r H', gev G 76 [self b] H = some (r, H') ∧ (r = .tuple #[] ∧ (∀ k, k ≠ b → H'.mine k = H.mine k) ∧ ∃ s, H'.mine b = some ([self b, s], 258) ∧ OS 1 257 H0 H' s l.length (u8s l) ∧ (l = [] → s = .slice none 0 0)) := by
    obtain ⟨p, s, hm, hp, hO, hne⟩ := h.ex
    have hlt := mine_lt hO.same.wf hm
    refine ⟨.tuple #[], H.put b (.cells [self b, s] 258 true), gev_ext (run := runCC) rfl ?_, rfl, fun k hk => mine_put_ne (Ne.symm hk), s, mine_put_same (mine_obj hm).1, ?_, hne⟩
    · rcases hp with rfl | rfl
      · simp only [self, runCC, hm]
      · simp only [self] at hm ⊢
        simp only [runCC, hm, if_true, self]
    · refine hO.but (S := fun j => j = b) ((But.refl (S := fun j => j = b) hO.same.wf).put rfl hlt _) (fun k hk e => ?_) fun a ha e => ?_
      · have := h.young; omega
      · have := (hO.ids ha).2.2
        rw [e, hm] at this
        simp at this
  refine Gw_s fun K' hK' => G1_call (by simp only [gtarget, ↓GArg.ev, ↓evs, ↓Tr.get_set, Nat.reduceEqDiff, if_true, if_false, ↓reduceIte, Option.map_some]; rfl) (hchk) fun r1 H1 hq => hK' _ _ ?_
  obtain ⟨rfl, hk1, s, hm, hO, hne⟩ := hq
  have hr1 : H1.rd b 1 = some s := mine_rd hm
  have hs : self b = .pointer (some ⟨b, 0, none⟩) := rfl
  repeat' (first | refine zA ?_ | refine zB ?_ | refine zC ?_ | refine zD ?_ | refine zE ?_ | refine zF ?_ | refine zG ?_ | refine zH ?_ | refine zI ?_ | refine zJ ?_ | refine zK rfl ?_ | refine zL ?_ | refine zM ?_ | refine zN ?_ | refine zO ?_ | refine zP rfl ?_ | refine zQ ?_ | ((first | refine zR ?_ | refine zS ?_ | refine zT ?_ | skip); intro K k; simp (disch := (first | (simp only [yD2, beq_self_eq_true, Nat.reduceLT, Nat.reduceAdd]; done) | ((fail_if_success (apply Bool.eq_iff_iff.2)); first | omega | (simp only [yD2, beq_self_eq_true, Nat.reduceLT, Nat.reduceAdd] <;> omega)) | fail)) only [↓yS, yT, ↓reduceIte, Nat.reduceEqDiff, Nat.reduceAdd, Nat.reduceMul, reduceCtorEq, Int.reduceToNat, g54, hs, hr1]; refine yC (k _ _ ?_); clear k K) | ((first | refine zU ?_ | refine zV ?_ | refine zW ?_); intro A B C D a b c d; simp only [↓yG, Nat.reduceEqDiff, ↓reduceIte, g54, hs, hr1]; (first | refine zX (a ?_) | refine zY (b ?_) | refine zZ (fun hc => c ?_) (fun hc => d ?_)) <;> clear a b c d A B C D <;> try simp only [yL] at hc) | (refine yA ?_; intro A a; simp only [↓yG, Nat.reduceEqDiff, ↓reduceIte, g54, hs, hr1]; refine yB (a ?_); clear a A) | (refine yD ?_; simp only [gresults, ↓yG, Nat.reduceEqDiff, ↓reduceIte, Option.bind_some, gld_1, gld_n, g54, hs, hr1]; refine ⟨_, rfl, ?_⟩; simp only [gone]))
  refine Gw_s fun K' hK' => ?_
  simp (disch := (first | (simp only [yD2, beq_self_eq_true, Nat.reduceLT, Nat.reduceAdd]; done) | ((fail_if_success (apply Bool.eq_iff_iff.2)); first | omega | (simp only [yD2, beq_self_eq_true, Nat.reduceLT, Nat.reduceAdd] <;> omega)) | fail)) only [↓yS, yT, ↓reduceIte, Nat.reduceEqDiff, Nat.reduceAdd, Nat.reduceMul, reduceCtorEq, Int.reduceToNat, hs, hr1]
  obtain ⟨r2, H2, e, hO2, hB, h0⟩ := hO.appStr t hn
  refine G1_eq e (hK' _ _ ?_)
  clear hK' K' e
  have hlt := mine_lt hO.same.wf hm
  have hnot : ¬ b ∈ idOf s := fun ha => by
    have := (hO.ids ha).2.2
    rw [hm] at this
    simp at this
  have hm2 : H2.mine b = some ([self b, s], 258) := by rw [hB.mine hlt hnot]; exact hm
  have hf := hO2.flat
  have hlt2 := mine_lt hO2.same.wf hm2
  have hO3 : OS 1 257 H0 (H2.put b (.cells [self b, r2] 258 true)) r2 (l.length + t.length) (u8s l ++ u8s t) :=
    hO2.but (S := fun j => j = b) ((But.refl (S := fun j => j = b) hO2.same.wf).put rfl hlt2 _) (fun k hk e => by have := h.young; omega) fun a ha e => by
      have := (hO2.ids ha).2.2
      rw [e, hm2] at this
      simp at this
  have hm3 : (H2.put b (.cells [self b, r2] 258 true)).mine b = some ([self b, r2], 258) := mine_put_same (mine_obj hm2).1
  have hst : gst none H2 (.pointer (some ⟨b, 1, none⟩)) r2 = some (H2.put b (.cells [self b, r2] 258 true)) := by
    rw [gst_1, hm2, Option.bind_some, gset_ok (by simp) hf]; rfl
  have hkeep : ∀ k cs, k ≠ b → H.mine k = some (cs, 0) → (H2.put b (.cells [self b, r2] 258 true)).mine k = some (cs, 0) := fun k cs hk hmk => by
    rw [mine_put_ne (Ne.symm hk)]
    have h1 : H1.mine k = some (cs, 0) := by rw [hk1 k hk]; exact hmk
    rw [hB.mine (mine_lt hO.same.wf h1) fun ha => by
      have := (hO.ids ha).2.2
      rw [h1] at this
      simp at this]
    exact h1
  generalize H2.put b (.cells [self b, r2] 258 true) = H3 at *
  repeat' (first | refine zA ?_ | refine zB ?_ | refine zC ?_ | refine zD ?_ | refine zE ?_ | refine zF ?_ | refine zG ?_ | refine zH ?_ | refine zI ?_ | refine zJ ?_ | refine zK rfl ?_ | refine zL ?_ | refine zM ?_ | refine zN ?_ | refine zO ?_ | refine zP rfl ?_ | refine zQ ?_ | ((first | refine zR ?_ | refine zS ?_ | refine zT ?_ | skip); intro K k; simp (disch := (first | (simp only [yD2, beq_self_eq_true, Nat.reduceLT, Nat.reduceAdd]; done) | ((fail_if_success (apply Bool.eq_iff_iff.2)); first | omega | (simp only [yD2, beq_self_eq_true, Nat.reduceLT, Nat.reduceAdd] <;> omega)) | fail)) only [↓yS, yT, ↓reduceIte, Nat.reduceEqDiff, Nat.reduceAdd, Nat.reduceMul, reduceCtorEq, Int.reduceToNat, g54, hs, hst]; refine yC (k _ _ ?_); clear k K) | ((first | refine zU ?_ | refine zV ?_ | refine zW ?_); intro A B C D a b c d; simp only [↓yG, Nat.reduceEqDiff, ↓reduceIte, g54, hs, hst]; (first | refine zX (a ?_) | refine zY (b ?_) | refine zZ (fun hc => c ?_) (fun hc => d ?_)) <;> clear a b c d A B C D <;> try simp only [yL] at hc) | (refine yA ?_; intro A a; simp only [↓yG, Nat.reduceEqDiff, ↓reduceIte, g54, hs, hst]; refine yB (a ?_); clear a A) | (refine yD ?_; simp only [gresults, ↓yG, Nat.reduceEqDiff, ↓reduceIte, Option.bind_some, gld_1, gld_n, g54, hs, hst]; refine ⟨_, rfl, ?_⟩; simp only [gone]))
  refine hPost _ _ ⟨⟨⟨_, _, hm3, .inr rfl, ?_, fun e => ?_⟩, h.young⟩, hkeep⟩
  · rw [u8s_append, List.length_append]; exact hO3
  · rw [List.append_eq_nil_iff] at e
    rw [(h0 (by rw [e.2]; rfl)).1]
    exact hne e.1
/-! ### the markup -/
def tagB (x : SR) : List UInt8 := letB x.s ++ (if x.y = [] then [] else 58 :: esc x.y)
def runT (x : SR) : List UInt8 := 123 :: tagB x ++ [125] ++ esc x.t
def run0 (x : SR) : List UInt8 := if tagB x = [] then esc x.t else runT x
def textB : List SR → List UInt8
  | [] => []
  | x :: r => run0 x ++ r.flatMap runT
theorem textB_take {l : List SR} {j : Nat} (h : j < l.length) : textB (l.take (j + 1)) = textB (l.take j) ++ (if j = 0 then run0 l[0]! else runT l[j]!) := by
  cases l with
  | nil => simp at h
  | cons x r =>
    cases j with
    | zero => simp [textB]
    | succ j =>
      have h2 : j < r.length := by simpa using h
      rw [List.take_succ_cons, List.take_succ_cons, textB, textB, List.take_succ_eq_append_getElem h2, List.flatMap_append, if_neg (by omega), ← List.append_assoc]
      congr 1
      rw [getElem!_pos (x :: r) (j + 1) (by simpa using h2)]
      simp
theorem textB_le (l : List SR) (j : Nat) : (textB (l.take j)).length ≤ (textB l).length := by
  cases l with
  | nil => simp
  | cons x r =>
    cases j with
    | zero => simp [textB]
    | succ j =>
      rw [List.take_succ_cons, textB, textB]
      have : r.flatMap runT = (r.take j).flatMap runT ++ (r.drop j).flatMap runT := by rw [← List.flatMap_append, List.take_append_drop]
      rw [this]
      simp only [List.length_append]; omega
/-- what Check has found -/
theorem chkGo_ok : ∀ {l : List SR} {p : Option SR}, chkGo p l = 0 → ∀ x ∈ l, vR x = true ∧ x.t ≠ [] ∧ okS x.s = true ∧ yR x = true
  | [], _, _, x, hx => by simp at hx
  | y :: l, p, h, x, hx => by
    rw [chkGo] at h
    split at h
    · rename_i h1
      rcases List.mem_cons.1 hx with rfl | hx
      · unfold chk1 at h1
        split at h1
        · cases h1
        · split at h1
          · cases h1
          · split at h1
            · cases h1
            · split at h1
              · cases h1
              · simp_all
      · exact chkGo_ok h x hx
    · rename_i h1; exact absurd h h1
theorem check_ok' {l : List SR} (h : checkF l = 0) : l.length ≤ 16 ∧ ∀ x ∈ l, vR x = true ∧ x.t ≠ [] ∧ okS x.s = true ∧ yR x = true := by
  unfold checkF at h
  split at h
  · cases h
  · exact ⟨by omega, chkGo_ok h⟩
end Go.Gh
