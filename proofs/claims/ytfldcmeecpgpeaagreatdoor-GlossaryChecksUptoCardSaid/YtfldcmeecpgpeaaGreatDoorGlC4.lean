/-
  charset, walked (as in charset's texts): valid strings, their characters, folded.
-/
import Derived.Test.YtfldcmeecpgpeaaGreatDoorGlC3
namespace Go.Gh
set_option linter.unusedSimpArgs false
set_option linter.unusedVariables false
set_option maxHeartbeats 4000000
open Go.RowKit Go.Lib
set_option maxRecDepth 4000
theorem gcv_str {H : GHeap} {k : IntKind} {n : Int} : gconv .strOfInt H (.int k n) = some (.string (Utf8.encode n), none) := rfl
theorem strB_app (a : List UInt8) (e : ByteArray) : strB a ++ e = strB (a ++ toL e) := by
  apply ByteArray.ext
  rw [ByteArray.data_append]
  apply Array.ext'
  simp [strB, toL]
theorem size_list (e : ByteArray) : e.size = (toL e).length := rfl
theorem gb_addS {k : Option EqK} {a : List UInt8} {e : ByteArray} (h : a.length + (toL e).length ≤ 9223372036854775807) : gbin .add k (.string (strB a)) (.string e) = some (.string (strB (a ++ toL e))) := by
  simp only [gbin, gstr]
  rw [strB_size, size_list, if_pos h, strB_app]
theorem gb_addE {e : Option EqK} {a : List UInt8} {x : Nat} (h : a.length + (encL x).length ≤ 9223372036854775807) : gbin .add e (.string (strB a)) (.string (Utf8.encode (x : Int))) = some (.string (strB (a ++ encL x))) := by
  rw [encL_toL] at h ⊢
  exact gb_addS h
set_option maxRecDepth 4000
section
variable {s : ByteArray} (hs : s.size ≤ 16777216)
include hs
theorem lvalid_ok (H : GHeap) : gev G 62 [.string s] H = some (.bool (Go.Lib.validD s.data.toList), H) :=
  gev_lib (f := 62) rfl rfl (by simp only [runValid]; rw [if_pos (by omega)]) rfl
theorem valid_ok (H : GHeap) : gev G 39 [.string s] H = some (.bool (vldB s), H) := by
  refine gev_GWP (f := 39) rfl rfl rfl (fun Post hPost => ?_) H
  simp only [frameOf, Nat.reduceAdd]
  repeat' (first | refine zn ?_ | refine zK rfl ?_ | refine zP rfl ?_ | ((first | refine zm ?_ | skip); intro _; intros; simp (disch := first | exact zd | fail) only [↓yS, yT, gresults, gone, ↓reduceIte, Nat.reduceEqDiff, Nat.reduceAdd, Nat.reduceMul, reduceCtorEq, Int.reduceToNat, g39]; first | (rename_i K k; (first | refine yC (k _ _ ?_) | refine zg (k _ ?_)); clear k K) | (rename_i A B C D a b c d; (first | refine zx (a ?_) | refine zy (b ?_) | refine zz (fun hc => c ?_) (fun hc => d ?_) | refine zv (b ?_) | refine zw (a ?_)) <;> clear a b c d A B C D <;> try simp only [yL] at hc)) | refine zA ?_ | refine zB ?_ | refine zF ?_)
  refine Gw_s fun K' hK' => G1_call (by simp only [gtarget, ↓GArg.ev, ↓evs, ↓Tr.get_set, Nat.reduceEqDiff, if_true, if_false, ↓reduceIte, Option.map_some]; rfl) (one_of (lvalid_ok hs _)) fun r1 H1 hq => hK' _ _ ?_
  obtain ⟨rfl, rfl⟩ := hq
  repeat' (first | refine zn ?_ | refine zK rfl ?_ | refine zP rfl ?_ | ((first | refine zm ?_ | skip); intro _; intros; simp (disch := first | exact zd | fail) only [↓yS, yT, gresults, gone, ↓reduceIte, Nat.reduceEqDiff, Nat.reduceAdd, Nat.reduceMul, reduceCtorEq, Int.reduceToNat, g39]; first | (rename_i K k; (first | refine yC (k _ _ ?_) | refine zg (k _ ?_)); clear k K) | (rename_i A B C D a b c d; (first | refine zx (a ?_) | refine zy (b ?_) | refine zz (fun hc => c ?_) (fun hc => d ?_) | refine zv (b ?_) | refine zw (a ?_)) <;> clear a b c d A B C D <;> try simp only [yL] at hc)) | refine zA ?_ | refine zB ?_ | refine zF ?_)
  case refine_1 =>
    have he : vldB s = false := by
      cases h : vldB s with
      | false => rfl
      | true => rw [vld_valid h] at hc; cases hc
    rw [he] at hPost
    exact hPost _
  case refine_2 =>
    refine GW_loop (fun k fr H1 => ∃ (l : List Nat) (p : Value), k = l.length ∧ fr.get 9 = some (p) ∧ ItAt H1 p l ∧ vldB s = l.all fun x => decide (0 ≤ idxN x)) ?_ (rns s).length ?_
    case refine_2 =>
      refine ⟨rns s, .pointer (some ⟨0, 0, none⟩), rfl, ?_⟩
      simp only [↓yG, Nat.reduceEqDiff, ↓reduceIte, Int.natCast_add, Int.cast_ofNat_Int, Int.natCast_zero, true_and, and_true, Option.some.injEq, Value.int.injEq]
      exact ⟨ItAt.new (H := ⟨.nil, 0, 0⟩) (Nat.le_refl _), rfl⟩
    rintro k fr H1 ⟨l, p, rfl, f9, hI, hf⟩ J hJ
    cases l with
    | nil =>
      have hx := hI.nil
      repeat' (first | refine zn ?_ | refine zK rfl ?_ | refine zP rfl ?_ | ((first | refine zm ?_ | skip); intro _; intros; simp (disch := first | exact zd | fail) only [↓yS, yT, gresults, gone, ↓reduceIte, Nat.reduceEqDiff, Nat.reduceAdd, Nat.reduceMul, reduceCtorEq, Int.reduceToNat, g39, f9, hx]; first | (rename_i K k; (first | refine yC (k _ _ ?_) | refine zg (k _ ?_)); clear k K) | (rename_i A B C D a b c d; (first | refine zx (a ?_) | refine zy (b ?_) | refine zz (fun hc => c ?_) (fun hc => d ?_) | refine zv (b ?_) | refine zw (a ?_)) <;> clear a b c d A B C D <;> try simp only [yL] at hc)) | refine zA ?_ | refine zB ?_ | refine zF ?_)
      have he : vldB s = true := hf
      rw [he] at hPost
      exact hPost _
    | cons x l =>
      obtain ⟨pos, o, hx, hI', hx'⟩ := hI.cons
      repeat' (first | refine zn ?_ | refine zK rfl ?_ | refine zP rfl ?_ | ((first | refine zm ?_ | skip); intro _; intros; simp (disch := first | exact zd | fail) only [↓yS, yT, gresults, gone, ↓reduceIte, Nat.reduceEqDiff, Nat.reduceAdd, Nat.reduceMul, reduceCtorEq, Int.reduceToNat, g39, f9, hx]; first | (rename_i K k; (first | refine yC (k _ _ ?_) | refine zg (k _ ?_)); clear k K) | (rename_i A B C D a b c d; (first | refine zx (a ?_) | refine zy (b ?_) | refine zz (fun hc => c ?_) (fun hc => d ?_) | refine zv (b ?_) | refine zw (a ?_)) <;> clear a b c d A B C D <;> try simp only [yL] at hc)) | refine zA ?_ | refine zB ?_ | refine zF ?_)
      refine Gw_s fun K' hK' => G1_call (by simp only [gtarget, ↓GArg.ev, ↓evs, ↓Tr.get_set, Nat.reduceEqDiff, if_true, if_false, ↓reduceIte, Option.map_some, f9]; rfl) (one_of (idx_ok (r := (x : Int)) (by omega) _)) fun r1 H2 hq => hK' _ _ ?_
      obtain ⟨rfl, rfl⟩ := hq
      repeat' (first | refine zn ?_ | refine zK rfl ?_ | refine zP rfl ?_ | ((first | refine zm ?_ | skip); intro _; intros; simp (disch := first | exact zd | fail) only [↓yS, yT, gresults, gone, ↓reduceIte, Nat.reduceEqDiff, Nat.reduceAdd, Nat.reduceMul, reduceCtorEq, Int.reduceToNat, g39, f9]; first | (rename_i K k; (first | refine yC (k _ _ ?_) | refine zg (k _ ?_)); clear k K) | (rename_i A B C D a b c d; (first | refine zx (a ?_) | refine zy (b ?_) | refine zz (fun hc => c ?_) (fun hc => d ?_) | refine zv (b ?_) | refine zw (a ?_)) <;> clear a b c d A B C D <;> try simp only [yL] at hc)) | refine zA ?_ | refine zB ?_ | refine zF ?_)
      case cons.refine_1 =>
        have he : vldB s = false := by
          rw [hf, List.all_cons, decide_eq_false (by omega)]; rfl
        rw [he] at hPost
        exact hPost _
      case cons.refine_2 =>
        refine hJ _ _ ⟨l.length, by simp, l, p, rfl, ?_⟩
        simp only [↓yG, Nat.reduceEqDiff, ↓reduceIte, Int.natCast_add, Int.cast_ofNat_Int, Int.natCast_zero, true_and, and_true, Option.some.injEq, Value.int.injEq, f9]
        exact ⟨hI', by rw [hf, List.all_cons, decide_eq_true (by omega), Bool.true_and]⟩
theorem rvalid_ok (H : GHeap) : gev G 24 [.string s] H = some (.bool (vldB s), H) := by
  refine gev_GWP (f := 24) rfl rfl rfl (fun Post hPost => ?_) H
  have _ := hs
  simp only [frameOf, Nat.reduceAdd]
  repeat' (first | refine zn ?_ | refine zK rfl ?_ | refine zP rfl ?_ | ((first | refine zm ?_ | skip); intro _; intros; simp (disch := first | exact zd | fail) only [↓yS, yT, gresults, gone, ↓reduceIte, Nat.reduceEqDiff, Nat.reduceAdd, Nat.reduceMul, reduceCtorEq, Int.reduceToNat, g24]; first | (rename_i K k; (first | refine yC (k _ _ ?_) | refine zg (k _ ?_)); clear k K) | (rename_i A B C D a b c d; (first | refine zx (a ?_) | refine zy (b ?_) | refine zz (fun hc => c ?_) (fun hc => d ?_) | refine zv (b ?_) | refine zw (a ?_)) <;> clear a b c d A B C D <;> try simp only [yL] at hc)) | refine zA ?_ | refine zB ?_ | refine zF ?_)
  refine GW_loop (fun k fr H1 => ∃ (l : List Nat) (p : Value), k = l.length ∧ fr.get 6 = some (p) ∧ ItAt H1 p l ∧ vldB s = l.all fun x => decide (0 ≤ idxN x)) ?_ (rns s).length ?_
  case refine_2 =>
    refine ⟨rns s, .pointer (some ⟨0, 0, none⟩), rfl, ?_⟩
    simp only [↓yG, Nat.reduceEqDiff, ↓reduceIte, Int.natCast_add, Int.cast_ofNat_Int, Int.natCast_zero, true_and, and_true, Option.some.injEq, Value.int.injEq]
    exact ⟨ItAt.new (H := ⟨.nil, 0, 0⟩) (Nat.le_refl _), rfl⟩
  rintro k fr H1 ⟨l, p, rfl, f6, hI, hf⟩ J hJ
  cases l with
  | nil =>
    have hx := hI.nil
    repeat' (first | refine zn ?_ | refine zK rfl ?_ | refine zP rfl ?_ | ((first | refine zm ?_ | skip); intro _; intros; simp (disch := first | exact zd | fail) only [↓yS, yT, gresults, gone, ↓reduceIte, Nat.reduceEqDiff, Nat.reduceAdd, Nat.reduceMul, reduceCtorEq, Int.reduceToNat, g24, f6, hx]; first | (rename_i K k; (first | refine yC (k _ _ ?_) | refine zg (k _ ?_)); clear k K) | (rename_i A B C D a b c d; (first | refine zx (a ?_) | refine zy (b ?_) | refine zz (fun hc => c ?_) (fun hc => d ?_) | refine zv (b ?_) | refine zw (a ?_)) <;> clear a b c d A B C D <;> try simp only [yL] at hc)) | refine zA ?_ | refine zB ?_ | refine zF ?_)
    have he : vldB s = true := hf
    rw [he] at hPost
    exact hPost _
  | cons x l =>
    obtain ⟨pos, o, hx, hI', hx'⟩ := hI.cons
    repeat' (first | refine zn ?_ | refine zK rfl ?_ | refine zP rfl ?_ | ((first | refine zm ?_ | skip); intro _; intros; simp (disch := first | exact zd | fail) only [↓yS, yT, gresults, gone, ↓reduceIte, Nat.reduceEqDiff, Nat.reduceAdd, Nat.reduceMul, reduceCtorEq, Int.reduceToNat, g24, f6, hx]; first | (rename_i K k; (first | refine yC (k _ _ ?_) | refine zg (k _ ?_)); clear k K) | (rename_i A B C D a b c d; (first | refine zx (a ?_) | refine zy (b ?_) | refine zz (fun hc => c ?_) (fun hc => d ?_) | refine zv (b ?_) | refine zw (a ?_)) <;> clear a b c d A B C D <;> try simp only [yL] at hc)) | refine zA ?_ | refine zB ?_ | refine zF ?_)
    refine Gw_s fun K' hK' => G1_call (by simp only [gtarget, ↓GArg.ev, ↓evs, ↓Tr.get_set, Nat.reduceEqDiff, if_true, if_false, ↓reduceIte, Option.map_some, f6]; rfl) (one_of (ridx_ok (r := (x : Int)) (by omega) _)) fun r1 H2 hq => hK' _ _ ?_
    obtain ⟨rfl, rfl⟩ := hq
    repeat' (first | refine zn ?_ | refine zK rfl ?_ | refine zP rfl ?_ | ((first | refine zm ?_ | skip); intro _; intros; simp (disch := first | exact zd | fail) only [↓yS, yT, gresults, gone, ↓reduceIte, Nat.reduceEqDiff, Nat.reduceAdd, Nat.reduceMul, reduceCtorEq, Int.reduceToNat, g24, f6]; first | (rename_i K k; (first | refine yC (k _ _ ?_) | refine zg (k _ ?_)); clear k K) | (rename_i A B C D a b c d; (first | refine zx (a ?_) | refine zy (b ?_) | refine zz (fun hc => c ?_) (fun hc => d ?_) | refine zv (b ?_) | refine zw (a ?_)) <;> clear a b c d A B C D <;> try simp only [yL] at hc)) | refine zA ?_ | refine zB ?_ | refine zF ?_)
    case cons.refine_1 =>
      have he : vldB s = false := by
        rw [hf, List.all_cons, decide_eq_false (by omega)]; rfl
      rw [he] at hPost
      exact hPost _
    case cons.refine_2 =>
      refine hJ _ _ ⟨l.length, by simp, l, p, rfl, ?_⟩
      simp only [↓yG, Nat.reduceEqDiff, ↓reduceIte, Int.natCast_add, Int.cast_ofNat_Int, Int.natCast_zero, true_and, and_true, Option.some.injEq, Value.int.injEq, f6]
      exact ⟨hI', by rw [hf, List.all_cons, decide_eq_true (by omega), Bool.true_and]⟩
omit hs in
end
set_option maxRecDepth 4000
theorem charL_yes {s : ByteArray} (h : vldB s = true) : charL s = rns s := if_pos h
theorem charL_no {s : ByteArray} (h : vldB s = false) : charL s = [] := if_neg (by rw [h]; decide)
section
variable {s : ByteArray} (hs : s.size ≤ 16777216)
include hs
theorem chars_ok {H : GHeap} (hw : H.wf) : ∃ r H', gev G 64 [.string s] H = some (r, H') ∧ OS 1 1 H H' r (charL s).length (RL (charL s)) := by
  refine gev_GW (f := 64) rfl fun Post hPost => ?_
  have hlen := rns_len s
  have hlim := hw.1
  simp only [frameOf, Nat.reduceAdd]
  repeat' (first | refine zn ?_ | refine zK rfl ?_ | refine zP rfl ?_ | ((first | refine zm ?_ | skip); intro _; intros; simp (disch := first | exact zd | fail) only [↓yS, yT, gresults, gone, ↓reduceIte, Nat.reduceEqDiff, Nat.reduceAdd, Nat.reduceMul, reduceCtorEq, Int.reduceToNat, g64]; first | (rename_i K k; (first | refine yC (k _ _ ?_) | refine zg (k _ ?_)); clear k K) | (rename_i A B C D a b c d; (first | refine zx (a ?_) | refine zy (b ?_) | refine zz (fun hc => c ?_) (fun hc => d ?_) | refine zv (b ?_) | refine zw (a ?_)) <;> clear a b c d A B C D <;> try simp only [yL] at hc)) | refine zA ?_ | refine zB ?_ | refine zF ?_)
  refine Gw_s fun K' hK' => G1_call (by simp only [gtarget, ↓GArg.ev, ↓evs, ↓Tr.get_set, Nat.reduceEqDiff, if_true, if_false, ↓reduceIte, Option.map_some]; rfl) (one_of (valid_ok hs _)) fun r1 H1 hq => hK' _ _ ?_
  obtain ⟨rfl, rfl⟩ := hq
  repeat' (first | refine zn ?_ | refine zK rfl ?_ | refine zP rfl ?_ | ((first | refine zm ?_ | skip); intro _; intros; simp (disch := first | exact zd | fail) only [↓yS, yT, gresults, gone, ↓reduceIte, Nat.reduceEqDiff, Nat.reduceAdd, Nat.reduceMul, reduceCtorEq, Int.reduceToNat, g64]; first | (rename_i K k; (first | refine yC (k _ _ ?_) | refine zg (k _ ?_)); clear k K) | (rename_i A B C D a b c d; (first | refine zx (a ?_) | refine zy (b ?_) | refine zz (fun hc => c ?_) (fun hc => d ?_) | refine zv (b ?_) | refine zw (a ?_)) <;> clear a b c d A B C D <;> try simp only [yL] at hc)) | refine zA ?_ | refine zB ?_ | refine zF ?_)
  case refine_1 =>
    rw [charL_no hc] at hPost
    exact hPost _ _ (OS.nil (Same.refl hw))
  case refine_2 =>
  rw [charL_yes hc] at hPost
  refine GW_loop (fun k fr H2 => ∃ (done rest : List Nat) (p v : Value), k = rest.length ∧ fr.get 3 = some (v) ∧ fr.get 10 = some (p) ∧ ItAt H2 p rest ∧ OS 1 1 H1 H2 v done.length (RL done) ∧ done ++ rest = rns s ∧ H1.len ≤ itId p) ?_ (rns s).length ?_
  case refine_2 =>
    refine ⟨[], rns s, .pointer (some ⟨H1.len, 0, none⟩), .slice none 0 0, rfl, ?_⟩
    simp only [↓yG, Nat.reduceEqDiff, ↓reduceIte, Int.natCast_add, Int.cast_ofNat_Int, Int.natCast_zero, true_and, and_true, Option.some.injEq, Value.int.injEq]
    exact ⟨ItAt.new hlim, OS.nil ((Same.refl hw).add _), rfl, Nat.le_refl _⟩
  rintro k fr H2 ⟨done, rest, p, v, rfl, f3, f10, hI, hO, hd, hp0⟩ J hJ
  have hw1 := hO.same.wf
  cases rest with
  | nil =>
    have hx := hI.nil
    repeat' (first | refine zn ?_ | refine zK rfl ?_ | refine zP rfl ?_ | ((first | refine zm ?_ | skip); intro _; intros; simp (disch := first | exact zd | fail) only [↓yS, yT, gresults, gone, ↓reduceIte, Nat.reduceEqDiff, Nat.reduceAdd, Nat.reduceMul, reduceCtorEq, Int.reduceToNat, g64, f3, f10, hx]; first | (rename_i K k; (first | refine yC (k _ _ ?_) | refine zg (k _ ?_)); clear k K) | (rename_i A B C D a b c d; (first | refine zx (a ?_) | refine zy (b ?_) | refine zz (fun hc => c ?_) (fun hc => d ?_) | refine zv (b ?_) | refine zw (a ?_)) <;> clear a b c d A B C D <;> try simp only [yL] at hc)) | refine zA ?_ | refine zB ?_ | refine zF ?_)
    simp only [List.append_nil] at hd
    subst hd
    exact hPost _ _ hO
  | cons x rest =>
    obtain ⟨pos, o, hx, hI', hx'⟩ := hI.cons
    have hdl := congrArg List.length hd
    simp only [List.length_append, List.length_cons] at hdl
    repeat' (first | refine zn ?_ | refine zK rfl ?_ | refine zP rfl ?_ | ((first | refine zm ?_ | skip); intro _; intros; simp (disch := first | exact zd | fail) only [↓yS, yT, gresults, gone, ↓reduceIte, Nat.reduceEqDiff, Nat.reduceAdd, Nat.reduceMul, reduceCtorEq, Int.reduceToNat, g64, f3, f10, hx, fill1r]; first | (rename_i K k; (first | refine yC (k _ _ ?_) | refine zg (k _ ?_)); clear k K) | (rename_i A B C D a b c d; (first | refine zx (a ?_) | refine zy (b ?_) | refine zz (fun hc => c ?_) (fun hc => d ?_) | refine zv (b ?_) | refine zw (a ?_)) <;> clear a b c d A B C D <;> try simp only [yL] at hc)) | refine zA ?_ | refine zB ?_ | refine zF ?_)
    have hlt := hI.lt hw1
    have hB : But (fun z => z = itId p) H2 (H2.put (itId p) o) := (But.refl (S := fun z => z = itId p) hw1).put (i := itId p) rfl hlt o
    have hne : ∀ a ∈ idOf v, ¬ a = itId p := fun a ha e => hI.ne (hO.ids ha).2.2 e.symm
    have hO2 := hO.but (S := fun z => z = itId p) hB (fun k hk e => by omega) hne
    have hcell : ints .i32 ((List.replicate 1 0).set 0 (x : Int)) = [.int .i32 (x : Int)] := rfl
    rw [hcell]
    refine Gw_s fun K' hK' => ?_
    simp (disch := first | exact zd | fail) only [↓yS, yT, ↓reduceIte, Nat.reduceEqDiff, Nat.reduceAdd, Nat.reduceMul, reduceCtorEq, Int.reduceToNat, f3, f10]
    obtain ⟨v', H3, e, hO3, hB3⟩ := hO2.app1 (by decide) (by decide) (news := [.int .i32 (x : Int)]) rfl (b := 4) (by omega) (by omega)
    refine G1_eq e (hK' _ _ ?_)
    clear hK' K' e
    have hob : H3.obj (itId p) = (H2.put (itId p) o).obj (itId p) := hB3.obj _ (by rw [len_put]; exact hlt) fun ha => hI'.ne (hO2.ids ha).2.2 rfl
    repeat' (first | refine zn ?_ | refine zK rfl ?_ | refine zP rfl ?_ | ((first | refine zm ?_ | skip); intro _; intros; simp (disch := first | exact zd | fail) only [↓yS, yT, gresults, gone, ↓reduceIte, Nat.reduceEqDiff, Nat.reduceAdd, Nat.reduceMul, reduceCtorEq, Int.reduceToNat, g64, f3, f10]; first | (rename_i K k; (first | refine yC (k _ _ ?_) | refine zg (k _ ?_)); clear k K) | (rename_i A B C D a b c d; (first | refine zx (a ?_) | refine zy (b ?_) | refine zz (fun hc => c ?_) (fun hc => d ?_) | refine zv (b ?_) | refine zw (a ?_)) <;> clear a b c d A B C D <;> try simp only [yL] at hc)) | refine zA ?_ | refine zB ?_ | refine zF ?_)
    refine hJ _ _ ⟨rest.length, by simp, done ++ [x], rest, p, v', rfl, ?_⟩
    simp only [↓yG, Nat.reduceEqDiff, ↓reduceIte, Int.natCast_add, Int.cast_ofNat_Int, Int.natCast_zero, true_and, and_true, Option.some.injEq, Value.int.injEq, f10]
    refine ⟨hI'.keep hB3.lim hob, ?_, by rw [← hd]; simp, hp0⟩
    rw [RL_snoc, List.length_append]
    exact hO3
theorem rchars_ok {H : GHeap} (hw : H.wf) : ∃ r H', gev G 50 [.string s] H = some (r, H') ∧ OS 1 1 H H' r (charL s).length (RL (charL s)) := by
  refine gev_GW (f := 50) rfl fun Post hPost => ?_
  simp only [frameOf, Nat.reduceAdd]
  repeat' (first | refine zn ?_ | refine zK rfl ?_ | refine zP rfl ?_ | ((first | refine zm ?_ | skip); intro _; intros; simp (disch := first | exact zd | fail) only [↓yS, yT, gresults, gone, ↓reduceIte, Nat.reduceEqDiff, Nat.reduceAdd, Nat.reduceMul, reduceCtorEq, Int.reduceToNat, g50]; first | (rename_i K k; (first | refine yC (k _ _ ?_) | refine zg (k _ ?_)); clear k K) | (rename_i A B C D a b c d; (first | refine zx (a ?_) | refine zy (b ?_) | refine zz (fun hc => c ?_) (fun hc => d ?_) | refine zv (b ?_) | refine zw (a ?_)) <;> clear a b c d A B C D <;> try simp only [yL] at hc)) | refine zA ?_ | refine zB ?_ | refine zF ?_)
  refine Gw_s fun K' hK' => G1_call (by simp only [gtarget, ↓GArg.ev, ↓evs, ↓Tr.get_set, Nat.reduceEqDiff, if_true, if_false, ↓reduceIte, Option.map_some]; rfl) (one_of (rvalid_ok hs _)) fun r1 H1 hq => hK' _ _ ?_
  obtain ⟨rfl, rfl⟩ := hq
  repeat' (first | refine zn ?_ | refine zK rfl ?_ | refine zP rfl ?_ | ((first | refine zm ?_ | skip); intro _; intros; simp (disch := first | exact zd | fail) only [↓yS, yT, gresults, gone, ↓reduceIte, Nat.reduceEqDiff, Nat.reduceAdd, Nat.reduceMul, reduceCtorEq, Int.reduceToNat, g50]; first | (rename_i K k; (first | refine yC (k _ _ ?_) | refine zg (k _ ?_)); clear k K) | (rename_i A B C D a b c d; (first | refine zx (a ?_) | refine zy (b ?_) | refine zz (fun hc => c ?_) (fun hc => d ?_) | refine zv (b ?_) | refine zw (a ?_)) <;> clear a b c d A B C D <;> try simp only [yL] at hc)) | refine zA ?_ | refine zB ?_ | refine zF ?_)
  case refine_1 =>
    rw [charL_no hc] at hPost
    exact hPost _ _ (OS.nil (Same.refl hw))
  case refine_2 =>
    rw [charL_yes hc] at hPost
    refine Gw_s fun K' hK' => G1_call (by simp only [gtarget, ↓GArg.ev, ↓evs, ↓Tr.get_set, Nat.reduceEqDiff, if_true, if_false, ↓reduceIte, Option.map_some]; rfl) (rrunes_ok hw (s := s) (by omega)) fun r2 H2 hO => hK' _ _ ?_
    repeat' (first | refine zn ?_ | refine zK rfl ?_ | refine zP rfl ?_ | ((first | refine zm ?_ | skip); intro _; intros; simp (disch := first | exact zd | fail) only [↓yS, yT, gresults, gone, ↓reduceIte, Nat.reduceEqDiff, Nat.reduceAdd, Nat.reduceMul, reduceCtorEq, Int.reduceToNat, g50]; first | (rename_i K k; (first | refine yC (k _ _ ?_) | refine zg (k _ ?_)); clear k K) | (rename_i A B C D a b c d; (first | refine zx (a ?_) | refine zy (b ?_) | refine zz (fun hc => c ?_) (fun hc => d ?_) | refine zv (b ?_) | refine zw (a ?_)) <;> clear a b c d A B C D <;> try simp only [yL] at hc)) | refine zA ?_ | refine zB ?_ | refine zF ?_)
    exact hPost _ _ hO
omit hs in
theorem asI_range {l : List Nat} (h : ∀ x ∈ l, x ∈ REP) : ∀ n ∈ asI l, -2147483648 ≤ n ∧ n ≤ 2147483647 := by
  intro n hn
  simp only [asI, List.mem_map] at hn
  obtain ⟨x, hx, rfl⟩ := hn
  have := rep_le (h x hx)
  omega
end
set_option maxRecDepth 4000
def mixL (l : List Nat) (j : Nat) : List Nat := (l.take j).map foldN ++ l.drop j
theorem mixL_len (l : List Nat) (j : Nat) : (mixL l j).length = l.length := by simp [mixL]; omega
theorem mixL_at {l : List Nat} {j : Nat} (h : j < l.length) : (mixL l j)[j]! = l[j]! := by
  have : (mixL l j)[j]? = l[j]? := by
    unfold mixL
    rw [List.getElem?_append_right (by simp; omega), List.length_map, List.length_take, Nat.min_eq_left (by omega), Nat.sub_self, List.getElem?_drop, Nat.add_zero]
  rw [List.getElem!_eq_getElem?_getD, List.getElem!_eq_getElem?_getD, this]
theorem mixL_next {l : List Nat} {j : Nat} (h : j < l.length) : (mixL l j).set j (foldN l[j]!) = mixL l (j + 1) := by
  unfold mixL
  have hj : ((l.take j).map foldN).length = j := by simp; omega
  rw [List.set_append_right _ _ (by omega), hj, Nat.sub_self, List.drop_eq_getElem_cons h, List.set_cons_zero, List.take_succ_eq_append_getElem h, ← getElem!_pos l j h]
  simp
theorem mixL_all (l : List Nat) : mixL l l.length = l.map foldN := by simp [mixL]
theorem RL_set (l : List Nat) (j x : Nat) : (RL l).set j (.int .i32 (x : Int)) = RL (l.set j x) := by simp [RL, List.map_set]
theorem fold_le {done : List Nat} (hdm : ∀ y ∈ done, y ∈ REP) : ((done.map foldN).flatMap encL).length ≤ 3 * done.length := by
  induction done with
  | nil => simp
  | cons y done ih =>
    have h1 := ih (fun z hz => hdm z (List.mem_cons_of_mem _ hz))
    have h2 := (encL_len (fold_char (hdm y (List.mem_cons_self ..))).1).1
    simp only [List.map_cons, List.flatMap_cons, List.length_append, List.length_cons]
    omega
def foldB (s : ByteArray) : List UInt8 := ((charL s).map foldN).flatMap encL
section
variable {s : ByteArray} (hs : s.size ≤ 16777216)
include hs
theorem fold_ok (H : GHeap) : gev G 40 [.string s] H = some (.string (strB (foldB s)), H) := by
  refine gev_GWP (f := 40) rfl rfl rfl (fun Post hPost => ?_) H
  have hcl := charL_len s
  have hcm := charL_mem s
  simp only [frameOf, Nat.reduceAdd]
  repeat' (first | refine zn ?_ | refine zK rfl ?_ | refine zP rfl ?_ | ((first | refine zm ?_ | skip); intro _; intros; simp (disch := first | exact zd | fail) only [↓yS, yT, gresults, gone, ↓reduceIte, Nat.reduceEqDiff, Nat.reduceAdd, Nat.reduceMul, reduceCtorEq, Int.reduceToNat, g40]; first | (rename_i K k; (first | refine yC (k _ _ ?_) | refine zg (k _ ?_)); clear k K) | (rename_i A B C D a b c d; (first | refine zx (a ?_) | refine zy (b ?_) | refine zz (fun hc => c ?_) (fun hc => d ?_) | refine zv (b ?_) | refine zw (a ?_)) <;> clear a b c d A B C D <;> try simp only [yL] at hc)) | refine zA ?_ | refine zB ?_ | refine zF ?_)
  refine Gw_s fun K' hK' => G1_call (by simp only [gtarget, ↓GArg.ev, ↓evs, ↓Tr.get_set, Nat.reduceEqDiff, if_true, if_false, ↓reduceIte, Option.map_some]; rfl) (chars_ok hs root_wf) fun r1 H1 hO => hK' _ _ ?_
  unfold foldB at hPost
  generalize charL s = l at *
  have hsl := hO.rd.isSl
  repeat' (first | refine zn ?_ | refine zK rfl ?_ | refine zP rfl ?_ | ((first | refine zm ?_ | skip); intro _; intros; simp (disch := first | exact zd | fail) only [↓yS, yT, gresults, gone, ↓reduceIte, Nat.reduceEqDiff, Nat.reduceAdd, Nat.reduceMul, reduceCtorEq, Int.reduceToNat, g40, hsl.len]; first | (rename_i K k; (first | refine yC (k _ _ ?_) | refine zg (k _ ?_)); clear k K) | (rename_i A B C D a b c d; (first | refine zx (a ?_) | refine zy (b ?_) | refine zz (fun hc => c ?_) (fun hc => d ?_) | refine zv (b ?_) | refine zw (a ?_)) <;> clear a b c d A B C D <;> try simp only [yL] at hc)) | refine zA ?_ | refine zB ?_ | refine zF ?_)
  refine GW_loop (fun k fr H2 => ∃ j : Nat, k = l.length - j ∧ j ≤ l.length ∧ fr.get 3 = some (r1) ∧ fr.get 8 = some (r1) ∧ fr.get 9 = some (.int .i64 l.length) ∧ fr.get 10 = some (.int .i64 j) ∧ OS 1 1 ⟨.nil, 0, 0⟩ H2 r1 l.length (RL (mixL l j))) ?_ l.length ?_
  case refine_2 =>
    refine ⟨0, by omega, by omega, ?_⟩
    simp only [↓yG, Nat.reduceEqDiff, ↓reduceIte, Int.natCast_add, Int.cast_ofNat_Int, Int.natCast_zero, true_and, and_true, Option.some.injEq, Value.int.injEq]
    exact hO
  rintro k fr H2 ⟨j, rfl, hj, f3, f8, f9, f10, hO2⟩ J hJ
  by_cases hjl : j < l.length
  · have hmem : l[j]! ∈ REP := hcm _ (by rw [getElem!_pos l j hjl]; exact List.getElem_mem hjl)
    obtain ⟨c1, c2, c3, _⟩ := fold_char hmem
    have hrl := rep_le hmem
    have hnext := mixL_next hjl
    have hat := mixL_at hjl
    rcases hO2.own.at_ with ⟨_, e⟩ | ⟨b, gc, e, hg, hm⟩
    · omega
    have hyb : b = b := rfl
    have hrb : H2.rd b j = some (.int .i32 (l[j]! : Nat)) := by
      rw [mine_rd hm]
      show (RL (mixL l j))[j]? = _
      rw [RL_at (by rw [mixL_len]; exact hjl), hat]
    generalize hx : l[j]! = x at *
    subst e
    repeat' (first | refine zn ?_ | refine zK rfl ?_ | refine zP rfl ?_ | ((first | refine zm ?_ | skip); intro _; intros; simp (disch := first | exact zd | fail) only [↓yS, yT, gresults, gone, ↓reduceIte, Nat.reduceEqDiff, Nat.reduceAdd, Nat.reduceMul, reduceCtorEq, Int.reduceToNat, g40, f3, f8, f9, f10, hrb]; first | (rename_i K k; (first | refine yC (k _ _ ?_) | refine zg (k _ ?_)); clear k K) | (rename_i A B C D a b c d; (first | refine zx (a ?_) | refine zy (b ?_) | refine zz (fun hc => c ?_) (fun hc => d ?_) | refine zv (b ?_) | refine zw (a ?_)) <;> clear a b c d A B C D <;> try simp only [yL] at hc)) | refine zA ?_ | refine zB ?_ | refine zF ?_)
    case pos.inr.refine_1 =>
      refine Gw_s fun K' hK' => G1_call (by simp only [gtarget, ↓GArg.ev, ↓evs, ↓Tr.get_set, Nat.reduceEqDiff, if_true, if_false, ↓reduceIte, Option.map_some, f3, f8, f9, f10]; rfl) (one_of (base_ok (r := (x : Int)) (by omega) _)) fun r2 H3 hq => hK' _ _ ?_
      obtain ⟨rfl, rfl⟩ := hq
      repeat' (first | refine zn ?_ | refine zK rfl ?_ | refine zP rfl ?_ | ((first | refine zm ?_ | skip); intro _; intros; simp (disch := first | exact zd | fail) only [↓yS, yT, gresults, gone, ↓reduceIte, Nat.reduceEqDiff, Nat.reduceAdd, Nat.reduceMul, reduceCtorEq, Int.reduceToNat, g40, f3, f8, f9, f10]; first | (rename_i K k; (first | refine yC (k _ _ ?_) | refine zg (k _ ?_)); clear k K) | (rename_i A B C D a b c d; (first | refine zx (a ?_) | refine zy (b ?_) | refine zz (fun hc => c ?_) (fun hc => d ?_) | refine zv (b ?_) | refine zw (a ?_)) <;> clear a b c d A B C D <;> try simp only [yL] at hc)) | refine zA ?_ | refine zB ?_ | refine zF ?_)
      refine Gw_s fun K' hK' => G1_call (by simp only [gtarget, ↓GArg.ev, ↓evs, ↓Tr.get_set, Nat.reduceEqDiff, if_true, if_false, ↓reduceIte, Option.map_some, f3, f8, f9, f10]; rfl) (one_of (lower_ok (r := basA (x : Int)) (by omega) _)) fun r2 H3 hq => hK' _ _ ?_
      obtain ⟨rfl, rfl⟩ := hq
      rw [c3]
      have hlen : (RL (mixL l j)).length = l.length := by rw [RL_len, mixL_len]
      repeat' (first | refine zn ?_ | refine zK rfl ?_ | refine zP rfl ?_ | ((first | refine zm ?_ | skip); intro _; intros; simp (disch := first | exact zd | fail) only [↓yS, yT, gresults, gone, ↓reduceIte, Nat.reduceEqDiff, Nat.reduceAdd, Nat.reduceMul, reduceCtorEq, Int.reduceToNat, g40, f3, f8, f9, f10, hm, hlen]; first | (rename_i K k; (first | refine yC (k _ _ ?_) | refine zg (k _ ?_)); clear k K) | (rename_i A B C D a b c d; (first | refine zx (a ?_) | refine zy (b ?_) | refine zz (fun hc => c ?_) (fun hc => d ?_) | refine zv (b ?_) | refine zw (a ?_)) <;> clear a b c d A B C D <;> try simp only [yL] at hc)) | refine zA ?_ | refine zB ?_ | refine zF ?_)
      refine hJ _ _ ⟨l.length - (j + 1), by omega, j + 1, rfl, by omega, ?_⟩
      simp only [↓yG, Nat.reduceEqDiff, ↓reduceIte, Int.natCast_add, Int.cast_ofNat_Int, Int.natCast_zero, true_and, and_true, Option.some.injEq, Value.int.injEq, f3, f8, f9]
      have hlt := mine_lt hO2.same.wf hm
      refine ⟨hO2.same.put (Nat.zero_le _) hlt _, ⟨by rw [RL_len, mixL_len, Nat.mul_one], .inr ⟨b, gc, rfl, hg, ?_⟩⟩, .inr (Nat.zero_le _)⟩
      rw [mine_put_same (mine_obj hm).1, RL_set, hnext]
    case pos.inr.refine_2 => omega
  · obtain rfl : j = l.length := by omega
    rw [mixL_all] at hO2
    have hmf : ∀ x ∈ l.map foldN, x ∈ REP := fun x hx => by
      obtain ⟨y, hy, rfl⟩ := List.mem_map.1 hx
      exact (fold_char (hcm y hy)).1
    have hv : GRd H2 1 r1 (asI (l.map foldN)).length (ints .i32 (asI (l.map foldN))) := by
      rw [← RL_ints, asI_len, List.length_map]; exact hO2.rd
    repeat' (first | (exfalso; omega) | refine zn ?_ | refine zK rfl ?_ | refine zP rfl ?_ | ((first | refine zm ?_ | skip); intro _; intros; simp (disch := first | exact zd | fail) only [↓yS, yT, gresults, gone, ↓reduceIte, Nat.reduceEqDiff, Nat.reduceAdd, Nat.reduceMul, reduceCtorEq, Int.reduceToNat, g40, f3, f8, f9, f10]; first | (rename_i K k; (first | refine yC (k _ _ ?_) | refine zg (k _ ?_)); clear k K) | (rename_i A B C D a b c d; (first | refine zx (a ?_) | refine zy (b ?_) | refine zz (fun hc => c ?_) (fun hc => d ?_) | refine zv (b ?_) | refine zw (a ?_)) <;> clear a b c d A B C D <;> try simp only [yL] at hc)) | refine zA ?_ | refine zB ?_ | refine zF ?_)
    refine Gw_s fun K' hK' => G1_call (by simp only [gtarget, ↓GArg.ev, ↓evs, ↓Tr.get_set, Nat.reduceEqDiff, if_true, if_false, ↓reduceIte, Option.map_some, f3]; rfl) (of_ok hO2.same.wf hv (asI_range hmf) (by rw [asI_len, List.length_map]; omega)) fun r2 H3 hq => hK' _ _ ?_
    obtain ⟨rfl, hS3⟩ := hq
    repeat' (first | refine zn ?_ | refine zK rfl ?_ | refine zP rfl ?_ | ((first | refine zm ?_ | skip); intro _; intros; simp (disch := first | exact zd | fail) only [↓yS, yT, gresults, gone, ↓reduceIte, Nat.reduceEqDiff, Nat.reduceAdd, Nat.reduceMul, reduceCtorEq, Int.reduceToNat, g40]; first | (rename_i K k; (first | refine yC (k _ _ ?_) | refine zg (k _ ?_)); clear k K) | (rename_i A B C D a b c d; (first | refine zx (a ?_) | refine zy (b ?_) | refine zz (fun hc => c ?_) (fun hc => d ?_) | refine zv (b ?_) | refine zw (a ?_)) <;> clear a b c d A B C D <;> try simp only [yL] at hc)) | refine zA ?_ | refine zB ?_ | refine zF ?_)
    rw [ofB_asI hmf]
    exact hPost _
omit hs in
theorem foldB_no (h : vldB s = false) : foldB s = [] := by rw [foldB, charL_no h]; rfl
theorem rfold_ok (H : GHeap) : gev G 25 [.string s] H = some (.string (strB (foldB s)), H) := by
  refine gev_GWP (f := 25) rfl rfl rfl (fun Post hPost => ?_) H
  have hcl := rns_len s
  simp only [frameOf, Nat.reduceAdd]
  repeat' (first | refine zn ?_ | refine zK rfl ?_ | refine zP rfl ?_ | ((first | refine zm ?_ | skip); intro _; intros; simp (disch := first | exact zd | fail) only [↓yS, yT, gresults, gone, ↓reduceIte, Nat.reduceEqDiff, Nat.reduceAdd, Nat.reduceMul, reduceCtorEq, Int.reduceToNat, g25]; first | (rename_i K k; (first | refine yC (k _ _ ?_) | refine zg (k _ ?_)); clear k K) | (rename_i A B C D a b c d; (first | refine zx (a ?_) | refine zy (b ?_) | refine zz (fun hc => c ?_) (fun hc => d ?_) | refine zv (b ?_) | refine zw (a ?_)) <;> clear a b c d A B C D <;> try simp only [yL] at hc)) | refine zA ?_ | refine zB ?_ | refine zF ?_)
  refine Gw_s fun K' hK' => G1_call (by simp only [gtarget, ↓GArg.ev, ↓evs, ↓Tr.get_set, Nat.reduceEqDiff, if_true, if_false, ↓reduceIte, Option.map_some]; rfl) (one_of (rvalid_ok hs _)) fun r1 H1 hq => hK' _ _ ?_
  obtain ⟨rfl, rfl⟩ := hq
  repeat' (first | refine zn ?_ | refine zK rfl ?_ | refine zP rfl ?_ | ((first | refine zm ?_ | skip); intro _; intros; simp (disch := first | exact zd | fail) only [↓yS, yT, gresults, gone, ↓reduceIte, Nat.reduceEqDiff, Nat.reduceAdd, Nat.reduceMul, reduceCtorEq, Int.reduceToNat, g25]; first | (rename_i K k; (first | refine yC (k _ _ ?_) | refine zg (k _ ?_)); clear k K) | (rename_i A B C D a b c d; (first | refine zx (a ?_) | refine zy (b ?_) | refine zz (fun hc => c ?_) (fun hc => d ?_) | refine zv (b ?_) | refine zw (a ?_)) <;> clear a b c d A B C D <;> try simp only [yL] at hc)) | refine zA ?_ | refine zB ?_ | refine zF ?_)
  case refine_1 =>
    rw [foldB_no hc] at hPost
    exact hPost _
  case refine_2 =>
  have hcm := vldB_mem hc
  refine GW_loop (fun k fr H1 => ∃ (done l : List Nat) (p : Value), k = l.length ∧ fr.get 3 = some (.string (strB ((done.map foldN).flatMap encL))) ∧ fr.get 10 = some (p) ∧ ItAt H1 p l ∧ done ++ l = rns s) ?_ (rns s).length ?_
  case refine_2 =>
    refine ⟨[], rns s, .pointer (some ⟨0, 0, none⟩), rfl, ?_⟩
    simp only [↓yG, Nat.reduceEqDiff, ↓reduceIte, Int.natCast_add, Int.cast_ofNat_Int, Int.natCast_zero, true_and, and_true, Option.some.injEq, Value.int.injEq]
    exact ⟨rfl, ItAt.new (H := ⟨.nil, 0, 0⟩) (Nat.le_refl _), rfl⟩
  rintro k fr H1 ⟨done, l, p, rfl, f3, f10, hI, hd⟩ J hJ
  cases l with
  | nil =>
    have hx := hI.nil
    repeat' (first | refine zn ?_ | refine zK rfl ?_ | refine zP rfl ?_ | ((first | refine zm ?_ | skip); intro _; intros; simp (disch := first | exact zd | fail) only [↓yS, yT, gresults, gone, ↓reduceIte, Nat.reduceEqDiff, Nat.reduceAdd, Nat.reduceMul, reduceCtorEq, Int.reduceToNat, g25, f3, f10, hx]; first | (rename_i K k; (first | refine yC (k _ _ ?_) | refine zg (k _ ?_)); clear k K) | (rename_i A B C D a b c d; (first | refine zx (a ?_) | refine zy (b ?_) | refine zz (fun hc => c ?_) (fun hc => d ?_) | refine zv (b ?_) | refine zw (a ?_)) <;> clear a b c d A B C D <;> try simp only [yL] at hc)) | refine zA ?_ | refine zB ?_ | refine zF ?_)
    rw [List.append_nil] at hd
    rw [foldB, charL_yes hc, ← hd] at hPost
    exact hPost _
  | cons x l =>
    obtain ⟨pos, o, hx, hI', hx'⟩ := hI.cons
    have hmem : x ∈ REP := hcm x (by rw [← hd]; simp)
    obtain ⟨c1, c2, c3, _⟩ := fold_char hmem
    obtain ⟨s1, s2, s3, s4⟩ := same_all (x : Int)
    obtain ⟨_, _, s3', _⟩ := same_all (basA (x : Int))
    have hdl := congrArg List.length hd
    simp only [List.length_append, List.length_cons] at hdl
    have hdm : ∀ y ∈ done, y ∈ REP := fun y hy => hcm y (by rw [← hd]; simp [hy])
    have hbl := fold_le hdm
    have hel := (encL_len c1).1
    have hadd := fun e => gb_addE (e := e) (a := (done.map foldN).flatMap encL) (x := foldN x) (by omega)
    repeat' (first | refine zn ?_ | refine zK rfl ?_ | refine zP rfl ?_ | ((first | refine zm ?_ | skip); intro _; intros; simp (disch := first | exact zd | fail) only [↓yS, yT, gresults, gone, ↓reduceIte, Nat.reduceEqDiff, Nat.reduceAdd, Nat.reduceMul, reduceCtorEq, Int.reduceToNat, g25, f3, f10, hx]; first | (rename_i K k; (first | refine yC (k _ _ ?_) | refine zg (k _ ?_)); clear k K) | (rename_i A B C D a b c d; (first | refine zx (a ?_) | refine zy (b ?_) | refine zz (fun hc => c ?_) (fun hc => d ?_) | refine zv (b ?_) | refine zw (a ?_)) <;> clear a b c d A B C D <;> try simp only [yL] at hc)) | refine zA ?_ | refine zB ?_ | refine zF ?_)
    refine Gw_s fun K' hK' => G1_call (by simp only [gtarget, ↓GArg.ev, ↓evs, ↓Tr.get_set, Nat.reduceEqDiff, if_true, if_false, ↓reduceIte, Option.map_some, f3, f10]; rfl) (one_of (rbase_ok (r := (x : Int)) (by omega) _)) fun r2 H3 hq => hK' _ _ ?_
    obtain ⟨rfl, rfl⟩ := hq
    rw [← s4]
    repeat' (first | refine zn ?_ | refine zK rfl ?_ | refine zP rfl ?_ | ((first | refine zm ?_ | skip); intro _; intros; simp (disch := first | exact zd | fail) only [↓yS, yT, gresults, gone, ↓reduceIte, Nat.reduceEqDiff, Nat.reduceAdd, Nat.reduceMul, reduceCtorEq, Int.reduceToNat, g25, f3, f10]; first | (rename_i K k; (first | refine yC (k _ _ ?_) | refine zg (k _ ?_)); clear k K) | (rename_i A B C D a b c d; (first | refine zx (a ?_) | refine zy (b ?_) | refine zz (fun hc => c ?_) (fun hc => d ?_) | refine zv (b ?_) | refine zw (a ?_)) <;> clear a b c d A B C D <;> try simp only [yL] at hc)) | refine zA ?_ | refine zB ?_ | refine zF ?_)
    refine Gw_s fun K' hK' => G1_call (by simp only [gtarget, ↓GArg.ev, ↓evs, ↓Tr.get_set, Nat.reduceEqDiff, if_true, if_false, ↓reduceIte, Option.map_some, f3, f10]; rfl) (one_of (rlower_ok (r := basA (x : Int)) (by omega) _)) fun r2 H3 hq => hK' _ _ ?_
    obtain ⟨rfl, rfl⟩ := hq
    rw [← s3', c3]
    repeat' (first | refine zn ?_ | refine zK rfl ?_ | refine zP rfl ?_ | ((first | refine zm ?_ | skip); intro _; intros; simp (disch := first | exact zd | fail) only [↓yS, yT, gresults, gone, ↓reduceIte, Nat.reduceEqDiff, Nat.reduceAdd, Nat.reduceMul, reduceCtorEq, Int.reduceToNat, g25, f3, f10, gcv_str, hadd]; first | (rename_i K k; (first | refine yC (k _ _ ?_) | refine zg (k _ ?_)); clear k K) | (rename_i A B C D a b c d; (first | refine zx (a ?_) | refine zy (b ?_) | refine zz (fun hc => c ?_) (fun hc => d ?_) | refine zv (b ?_) | refine zw (a ?_)) <;> clear a b c d A B C D <;> try simp only [yL] at hc)) | refine zA ?_ | refine zB ?_ | refine zF ?_)
    refine hJ _ _ ⟨l.length, by simp, done ++ [x], l, p, rfl, ?_⟩
    simp only [↓yG, Nat.reduceEqDiff, ↓reduceIte, Int.natCast_add, Int.cast_ofNat_Int, Int.natCast_zero, true_and, and_true, Option.some.injEq, Value.int.injEq, f10]
    exact ⟨by simp, hI', by rw [← hd]; simp⟩
end
end Go.Gh
