/-
  document, walked: the header; the anchor of a comment.
-/
import Derived.Test.YtjjcgaompnjbdaaDoorTrW7
namespace Go.Gh
set_option linter.unusedSimpArgs false
set_option linter.unusedVariables false
set_option maxHeartbeats 4000000
open Go.RowKit
set_option maxRecDepth 4000

def dcC (d : Dc) : List Value := [.string (strB d.ti), .string (strB d.la), .int .u8 d.rt, .bool d.dr, .int .i64 d.last, d.rv, d.ev, d.cv]
theorem dcC_0 (d : Dc) : (dcC d)[0]? = some (.string (strB d.ti)) := rfl
theorem dcC_1 (d : Dc) : (dcC d)[1]? = some (.string (strB d.la)) := rfl
theorem dcC_2 (d : Dc) : (dcC d)[2]? = some (.int .u8 d.rt) := rfl
theorem dcC_3 (d : Dc) : (dcC d)[3]? = some (.bool d.dr) := rfl
theorem dcC_4 (d : Dc) : (dcC d)[4]? = some (.int .i64 d.last) := rfl
theorem dcC_5 (d : Dc) : (dcC d)[5]? = some d.rv := rfl
theorem dcC_6 (d : Dc) : (dcC d)[6]? = some d.ev := rfl
theorem dcC_7 (d : Dc) : (dcC d)[7]? = some d.cv := rfl
theorem dc_cells (d : Dc) : (dcV d).cells.toList = dcC d := rfl
theorem rdn_dc {H : GHeap} {j : Nat} {d : Dc} {u : Nat} {b : Bool} (h : H.len = j) : (H.add (some (.cells (dcC d) u b))).rdn j 0 8 = some (dcV d) := rdn_add_all h rfl
theorem rdn_dcp {H : GHeap} {j : Nat} {d : Dc} {u : Nat} {b : Bool} : (H.put j (.cells (dcC d) u b)).rdn j 0 8 = some (dcV d) := rdn_put_all rfl
theorem RDc : type_of% (And.intro (And.intro (And.intro @dcC_0 (And.intro @dcC_1 @dcC_2)) (And.intro @dcC_3 (And.intro @dcC_4 @dcC_5))) (And.intro (And.intro @dcC_6 @dcC_7) (And.intro @dc_cells (And.intro @rdn_dc @rdn_dcp)))) := ⟨⟨⟨@dcC_0, ⟨@dcC_1, @dcC_2⟩⟩, ⟨@dcC_3, ⟨@dcC_4, @dcC_5⟩⟩⟩, ⟨⟨@dcC_6, @dcC_7⟩, ⟨@dc_cells, ⟨@rdn_dc, @rdn_dcp⟩⟩⟩⟩
theorem dcC_flat {H : GHeap} {d : Dc} (h : DcR H d) : (dcC d).all flatV = true := by simp [dcC, flatV_int, flatV_str, flatV_bool, h.rg.flat, h.ev.rd.flat, h.cm.flat]
theorem dc_cflat {H : GHeap} {d : Dc} (h : DcR H d) : (dcV d).cells.all flatV = true := by rw [← Array.all_toList]; exact dcC_flat h
theorem cmC_0 (c : Cm) : (cmC c)[0]? = some (.int .i64 c.id) := rfl
theorem cmC_1 (c : Cm) : (cmC c)[1]? = some (.int .i64 c.ev) := rfl
theorem cmC_2 (c : Cm) : (cmC c)[2]? = some (.int .i64 c.fr) := rfl
theorem cmC_3 (c : Cm) : (cmC c)[3]? = some (.int .i64 c.to) := rfl
theorem cmC_4 (c : Cm) : (cmC c)[4]? = some (.string (strB c.au)) := rfl
theorem cmC_5 (c : Cm) : (cmC c)[5]? = some (.string (strB c.tx)) := rfl
theorem cmC_6 (c : Cm) : (cmC c)[6]? = some (.bool c.dn) := rfl
theorem cmC_7 (c : Cm) : (cmC c)[7]? = some (.bool c.lo) := rfl
theorem cm_cells (c : Cm) : (cmV c).cells.toList = cmC c := rfl
theorem cmC_flat (c : Cm) : (cmC c).all flatV = true := by simp [cmC, flatV_int, flatV_str, flatV_bool]
theorem cm_cflat (c : Cm) : (cmV c).cells.all flatV = true := by rw [← Array.all_toList]; exact cmC_flat c
theorem gsetn_cm {cs : List Value} {c : Cm} (h : cs.length = 8) : gsetn cs 0 8 (cmV c) = some (cmC c) := gsetn_all h rfl (by simp [flatV])
theorem rdn_cm {H : GHeap} {j : Nat} {c : Cm} {u : Nat} {b : Bool} (h : H.len = j) : (H.add (some (.cells (cmC c) u b))).rdn j 0 8 = some (cmV c) := rdn_add_all h rfl
theorem rdn_cmp {H : GHeap} {j : Nat} {c : Cm} {u : Nat} {b : Bool} : (H.put j (.cells (cmC c) u b)).rdn j 0 8 = some (cmV c) := rdn_put_all rfl
theorem RC : type_of% (And.intro (And.intro (And.intro @cmC_0 (And.intro @cmC_1 @cmC_2)) (And.intro @cmC_3 (And.intro @cmC_4 @cmC_5))) (And.intro (And.intro @cmC_6 (And.intro @cmC_7 @cm_cells)) (And.intro (And.intro @cm_cflat @gsetn_cm) (And.intro @rdn_cm @rdn_cmp)))) := ⟨⟨⟨@cmC_0, ⟨@cmC_1, @cmC_2⟩⟩, ⟨@cmC_3, ⟨@cmC_4, @cmC_5⟩⟩⟩, ⟨⟨@cmC_6, ⟨@cmC_7, @cm_cells⟩⟩, ⟨⟨@cm_cflat, @gsetn_cm⟩, ⟨@rdn_cm, @rdn_cmp⟩⟩⟩⟩
theorem header_ok {H : GHeap} (hw : H.wf) {d : Dc} (hd : DcR H d) (hs : SmD d) : ∃ r H', gev G 15 [dcV d] H = some (r, H') ∧ (ErrIs r (hdrOk d) ∧ Same H H') := by
  refine gev_GW (f := 15) rfl fun Post hPost => ?_
  have hlim := hw.1
  have fd := dc_cflat hd
  obtain ⟨s1, s2, s3⟩ := And.intro hs.ti (And.intro hs.la hs.rt)
  have z1 := strB_size d.ti
  have hbd : ∀ {n : Int} {H'}, n ≠ 0 → Same H H' → ¬ hdrOk d → Post (.int .i64 n) H' := fun hn hS h => hPost _ _ ⟨ErrIs.no hn h, hS⟩
  simp only [frameOf, Nat.reduceAdd]
  repeat' (first | refine zn ?_ | refine zK rfl ?_ | refine zP rfl ?_ | ((first | refine zm ?_ | skip); intro _; intros; simp (disch := first | exact zd | fail) only [↓yS, yT, gresults, gone, ↓reduceIte, Nat.reduceEqDiff, Nat.reduceAdd, Nat.reduceMul, reduceCtorEq, Int.reduceToNat, g15, RDc, fd]; first | (rename_i K k; (first | refine yC (k _ _ ?_) | refine zg (k _ ?_)); clear k K) | (rename_i A B C D a b c d; (first | refine zx (a ?_) | refine zy (b ?_) | refine zz (fun hc => c ?_) (fun hc => d ?_) | refine zv (b ?_) | refine zw (a ?_)) <;> clear a b c d A B C D <;> try simp only [yL] at hc)) | refine zA ?_ | refine zB ?_ | refine zF ?_)
  have hS1 : Same H (H.add (some (.cells (dcC d) 0 true))) := (Same.refl hw).add _
  refine Gw_s fun K' hK' => G1_call (by simp only [gtarget, ↓GArg.ev, ↓evs, ↓Tr.get_set, Nat.reduceEqDiff, if_true, if_false, ↓reduceIte, Option.map_some, RDc]; rfl) (one_of (valid_ok (s := strB d.ti) (by rw [strB_size]; omega) _)) fun r2 H2 hq => hK' _ _ ?_
  obtain ⟨rfl, rfl⟩ := hq
  cases hv : vldB (strB d.ti) with
  | false =>
    repeat' (first | refine zn ?_ | refine zK rfl ?_ | refine zP rfl ?_ | ((first | refine zm ?_ | skip); intro _; intros; simp (disch := first | exact zd | fail) only [↓yS, yT, gresults, gone, ↓reduceIte, Nat.reduceEqDiff, Nat.reduceAdd, Nat.reduceMul, reduceCtorEq, Int.reduceToNat, g15, RDc, Bool.not_false]; first | (rename_i K k; (first | refine yC (k _ _ ?_) | refine zg (k _ ?_)); clear k K) | (rename_i A B C D a b c d; (first | refine zx (a ?_) | refine zy (b ?_) | refine zz (fun hc => c ?_) (fun hc => d ?_) | refine zv (b ?_) | refine zw (a ?_)) <;> clear a b c d A B C D <;> try simp only [yL] at hc)) | refine zA ?_ | refine zB ?_ | refine zF ?_)
    exact hbd (by decide) hS1 fun h => by have := h.1; rw [hv] at this; cases this
  | true =>
  by_cases h4 : d.ti.length ≤ 400
  case neg =>
    repeat' (first | refine zn ?_ | refine zK rfl ?_ | refine zP rfl ?_ | ((first | refine zm ?_ | skip); intro _; intros; simp (disch := first | exact zd | fail) only [↓yS, yT, gresults, gone, ↓reduceIte, Nat.reduceEqDiff, Nat.reduceAdd, Nat.reduceMul, reduceCtorEq, Int.reduceToNat, g15, RDc, Bool.not_true, z1]; first | (rename_i K k; (first | refine yC (k _ _ ?_) | refine zg (k _ ?_)); clear k K) | (rename_i A B C D a b c d; (first | refine zx (a ?_) | refine zy (b ?_) | refine zz (fun hc => c ?_) (fun hc => d ?_) | refine zv (b ?_) | refine zw (a ?_)) <;> clear a b c d A B C D <;> try simp only [yL] at hc)) | refine zA ?_ | refine zB ?_ | refine zF ?_)
    all_goals first | exact hbd (by decide) hS1 fun h => h4 h.2.1 | (exfalso; omega)
  have d4 : decide ((400 : Int) < d.ti.length) = false := decide_eq_false (by omega)
  by_cases hla : d.la = [] ∨ nameF d.la = true
  case neg =>
    have d5 : decide (¬ d.la = []) = true := decide_eq_true fun h => hla (.inl h)
    have d6 : nameF d.la = false := Bool.eq_false_iff.2 fun h => hla (.inr h)
    repeat' (first | refine zn ?_ | refine zK rfl ?_ | refine zP rfl ?_ | ((first | refine zm ?_ | skip); intro _; intros; simp (disch := first | exact zd | fail) only [↓yS, yT, gresults, gone, ↓reduceIte, Nat.reduceEqDiff, Nat.reduceAdd, Nat.reduceMul, reduceCtorEq, Int.reduceToNat, g15, RDc, Bool.not_true, z1, d4, gb_neE, d5]; first | (rename_i K k; (first | refine yC (k _ _ ?_) | refine zg (k _ ?_)); clear k K) | (rename_i A B C D a b c d; (first | refine zx (a ?_) | refine zy (b ?_) | refine zz (fun hc => c ?_) (fun hc => d ?_) | refine zv (b ?_) | refine zw (a ?_)) <;> clear a b c d A B C D <;> try simp only [yL] at hc)) | refine zA ?_ | refine zB ?_ | refine zF ?_)
    intro K' hK'; refine G1_call (by simp only [gtarget, ↓GArg.ev, ↓evs, ↓Tr.get_set, Nat.reduceEqDiff, if_true, if_false, ↓reduceIte, Option.map_some, RDc]; rfl) (one_of (name_ok s2 _)) fun r4 H4 hq => hK' _ _ ?_
    obtain ⟨rfl, rfl⟩ := hq
    repeat' (first | refine zn ?_ | refine zK rfl ?_ | refine zP rfl ?_ | ((first | refine zm ?_ | skip); intro _; intros; simp (disch := first | exact zd | fail) only [↓yS, yT, gresults, gone, ↓reduceIte, Nat.reduceEqDiff, Nat.reduceAdd, Nat.reduceMul, reduceCtorEq, Int.reduceToNat, g15, d6, Bool.not_false]; first | (rename_i K k; (first | refine yC (k _ _ ?_) | refine zg (k _ ?_)); clear k K) | (rename_i A B C D a b c d; (first | refine zx (a ?_) | refine zy (b ?_) | refine zz (fun hc => c ?_) (fun hc => d ?_) | refine zv (b ?_) | refine zw (a ?_)) <;> clear a b c d A B C D <;> try simp only [yL] at hc)) | refine zA ?_ | refine zB ?_ | refine zF ?_)
    exact hbd (by decide) hS1 fun h => hla h.2.2.1
  by_cases hl0 : d.la = []
  case' pos =>
    have d5 : decide (¬ d.la = []) = false := decide_eq_false fun h => h hl0
    repeat' (first | refine zn ?_ | refine zK rfl ?_ | refine zP rfl ?_ | ((first | refine zm ?_ | skip); intro _; intros; simp (disch := first | exact zd | fail) only [↓yS, yT, gresults, gone, ↓reduceIte, Nat.reduceEqDiff, Nat.reduceAdd, Nat.reduceMul, reduceCtorEq, Int.reduceToNat, g15, RDc, Bool.not_true, z1, d4, gb_neE, d5]; first | (rename_i K k; (first | refine yC (k _ _ ?_) | refine zg (k _ ?_)); clear k K) | (rename_i A B C D a b c d; (first | refine zx (a ?_) | refine zy (b ?_) | refine zz (fun hc => c ?_) (fun hc => d ?_) | refine zv (b ?_) | refine zw (a ?_)) <;> clear a b c d A B C D <;> try simp only [yL] at hc)) | refine zA ?_ | refine zB ?_ | refine zF ?_)
  case' neg =>
    have d5 : decide (¬ d.la = []) = true := decide_eq_true hl0
    have d6 := hla.resolve_left hl0
    repeat' (first | refine zn ?_ | refine zK rfl ?_ | refine zP rfl ?_ | ((first | refine zm ?_ | skip); intro _; intros; simp (disch := first | exact zd | fail) only [↓yS, yT, gresults, gone, ↓reduceIte, Nat.reduceEqDiff, Nat.reduceAdd, Nat.reduceMul, reduceCtorEq, Int.reduceToNat, g15, RDc, Bool.not_true, z1, d4, gb_neE, d5]; first | (rename_i K k; (first | refine yC (k _ _ ?_) | refine zg (k _ ?_)); clear k K) | (rename_i A B C D a b c d; (first | refine zx (a ?_) | refine zy (b ?_) | refine zz (fun hc => c ?_) (fun hc => d ?_) | refine zv (b ?_) | refine zw (a ?_)) <;> clear a b c d A B C D <;> try simp only [yL] at hc)) | refine zA ?_ | refine zB ?_ | refine zF ?_)
    intro K' hK'; refine G1_call (by simp only [gtarget, ↓GArg.ev, ↓evs, ↓Tr.get_set, Nat.reduceEqDiff, if_true, if_false, ↓reduceIte, Option.map_some, RDc]; rfl) (one_of (name_ok s2 _)) fun r4 H4 hq => hK' _ _ ?_
    obtain ⟨rfl, rfl⟩ := hq
    repeat' (first | refine zn ?_ | refine zK rfl ?_ | refine zP rfl ?_ | ((first | refine zm ?_ | skip); intro _; intros; simp (disch := first | exact zd | fail) only [↓yS, yT, gresults, gone, ↓reduceIte, Nat.reduceEqDiff, Nat.reduceAdd, Nat.reduceMul, reduceCtorEq, Int.reduceToNat, g15, d6, Bool.not_true, RDc]; first | (rename_i K k; (first | refine yC (k _ _ ?_) | refine zg (k _ ?_)); clear k K) | (rename_i A B C D a b c d; (first | refine zx (a ?_) | refine zy (b ?_) | refine zz (fun hc => c ?_) (fun hc => d ?_) | refine zv (b ?_) | refine zw (a ?_)) <;> clear a b c d A B C D <;> try simp only [yL] at hc)) | refine zA ?_ | refine zB ?_ | refine zF ?_)
  all_goals
    refine Gw_s fun K' hK' => G1_call (by simp only [gtarget, ↓GArg.ev, ↓evs, ↓Tr.get_set, Nat.reduceEqDiff, if_true, if_false, ↓reduceIte, Option.map_some, RDc]; rfl) (one_of (rate_ok s3 _)) fun r5 H5 hq => hK' _ _ ?_
    obtain ⟨rfl, rfl⟩ := hq
    by_cases hr : 0 < tk d.rt ∧ (d.dr = true → cdr d.rt = true)
    case neg =>
      rw [if_neg hr]
      repeat' (first | refine zn ?_ | refine zK rfl ?_ | refine zP rfl ?_ | ((first | refine zm ?_ | skip); intro _; intros; simp (disch := first | exact zd | fail) only [↓yS, yT, gresults, gone, ↓reduceIte, Nat.reduceEqDiff, Nat.reduceAdd, Nat.reduceMul, reduceCtorEq, Int.reduceToNat, g15, RDc]; first | (rename_i K k; (first | refine yC (k _ _ ?_) | refine zg (k _ ?_)); clear k K) | (rename_i A B C D a b c d; (first | refine zx (a ?_) | refine zy (b ?_) | refine zz (fun hc => c ?_) (fun hc => d ?_) | refine zv (b ?_) | refine zw (a ?_)) <;> clear a b c d A B C D <;> try simp only [yL] at hc)) | refine zA ?_ | refine zB ?_ | refine zF ?_)
      exact hbd (by decide) hS1 fun h => hr ⟨h.2.2.2.1, h.2.2.2.2.1⟩
    rw [if_pos hr]
    repeat' (first | refine zn ?_ | refine zK rfl ?_ | refine zP rfl ?_ | ((first | refine zm ?_ | skip); intro _; intros; simp (disch := first | exact zd | fail) only [↓yS, yT, gresults, gone, ↓reduceIte, Nat.reduceEqDiff, Nat.reduceAdd, Nat.reduceMul, reduceCtorEq, Int.reduceToNat, g15, RDc]; first | (rename_i K k; (first | refine yC (k _ _ ?_) | refine zg (k _ ?_)); clear k K) | (rename_i A B C D a b c d; (first | refine zx (a ?_) | refine zy (b ?_) | refine zz (fun hc => c ?_) (fun hc => d ?_) | refine zv (b ?_) | refine zw (a ?_)) <;> clear a b c d A B C D <;> try simp only [yL] at hc)) | refine zA ?_ | refine zB ?_ | refine zF ?_)
    all_goals first
      | (exact hbd (by decide) hS1 fun h => by have := h.2.2.2.2.2; omega)
      | (exact hPost _ _ ⟨ErrIs.yes ⟨hv, h4, hla, hr.1, hr.2, by omega, by omega⟩, hS1⟩)
/-! ### the map of the events' numbers -/
def MapIs (E : List Ev) (j : Nat) (L : List (Int × Int)) : Prop := ∀ a n, dfind a L = some n ↔ ∃ k : Nat, n = k ∧ k < j ∧ E[k]!.id = a
theorem look_none {H : GHeap} {r : Nat} {a : Int} {L : List (Int × Int)} (h : H.dct r = some (dic L)) (hd : dfind a L = none) : glook (.int .i64 0) true H (.map (some r)) (.int .i64 a) = some (.tuple #[.int .i64 0, .bool false]) := by
  rw [glook_dic h, hd]; rfl
theorem look_some {H : GHeap} {r : Nat} {a n : Int} {L : List (Int × Int)} (h : H.dct r = some (dic L)) (hd : dfind a L = some n) : glook (.int .i64 0) true H (.map (some r)) (.int .i64 a) = some (.tuple #[.int .i64 n, .bool true]) := by
  rw [glook_dic h, hd]; rfl
theorem anchored_ok {H : GHeap} (hw : H.wf) {d : Dc} (hd : DcR H d) (hs : SmD d) {c : Cm} {m : Nat} {L : List (Int × Int)} (hm : H.dct m = some (dic L)) (hml : m < H.len) (hL : MapIs d.E d.E.length L) :
    ∃ r H', gev G 38 [dcV d, cmV c, .map (some m)] H = some (r, H') ∧ (ErrIs r (ancOk d.last d.E c) ∧ Same H H') := by
  refine gev_GW (f := 38) rfl fun Post hPost => ?_
  have hlim := hw.1
  have fd := dc_cflat hd
  have hbd : ∀ {n : Int} {H'}, n ≠ 0 → Same H H' → ¬ ancOk d.last d.E c → Post (.int .i64 n) H' := fun hn hS h => hPost _ _ ⟨ErrIs.no hn h, hS⟩
  simp only [frameOf, Nat.reduceAdd]
  obtain ⟨H1, hH1⟩ : ∃ H1, H1 = (H.add (some (.cells (dcC d) 0 true))).add (some (.cells (cmC c) 0 true)) := ⟨_, rfl⟩
  have hS1 : Same H H1 := hH1 ▸ ((Same.refl hw).add _).add _
  have q4 : H1.rd H.len 4 = some (.int .i64 d.last) := by rw [hH1, rd_add_ne (by rw [len_add]; omega), rd_add_eq rfl]; rfl
  have q6 : H1.rd H.len 6 = some d.ev := by rw [hH1, rd_add_ne (by rw [len_add]; omega), rd_add_eq rfl]; rfl
  have k0 : ∀ i, H1.rd (H.len + 1) i = (cmC c)[i]? := fun i => by rw [hH1, rd_add_eq (by rw [len_add])]
  have k1 := k0 1
  have k2 := k0 2
  have k3 := k0 3
  have k7 := k0 7
  rw [cmC_1] at k1
  rw [cmC_2] at k2
  rw [cmC_3] at k3
  rw [cmC_7] at k7
  clear k0
  have hm1 : H1.dct m = some (dic L) := (hS1.dct hml).trans hm
  repeat' (first | refine zn ?_ | refine zK rfl ?_ | refine zP rfl ?_ | ((first | refine zm ?_ | skip); intro _; intros; simp (disch := first | exact zd | fail) only [↓yS, yT, gresults, gone, ↓reduceIte, Nat.reduceEqDiff, Nat.reduceAdd, Nat.reduceMul, reduceCtorEq, Int.reduceToNat, g38, RDc, RC, fd, hH1.symm]; first | (rename_i K k; (first | refine yC (k _ _ ?_) | refine zg (k _ ?_)); clear k K) | (rename_i A B C D a b c d; (first | refine zx (a ?_) | refine zy (b ?_) | refine zz (fun hc => c ?_) (fun hc => d ?_) | refine zv (b ?_) | refine zw (a ?_)) <;> clear a b c d A B C D <;> try simp only [yL] at hc)) | refine zA ?_ | refine zB ?_ | refine zF ?_)
  by_cases he : 1 ≤ c.ev ∧ c.ev ≤ d.last
  case neg =>
    repeat' (first | refine zn ?_ | refine zK rfl ?_ | refine zP rfl ?_ | ((first | refine zm ?_ | skip); intro _; intros; simp (disch := first | exact zd | fail) only [↓yS, yT, gresults, gone, ↓reduceIte, Nat.reduceEqDiff, Nat.reduceAdd, Nat.reduceMul, reduceCtorEq, Int.reduceToNat, g38, q4, k1]; first | (rename_i K k; (first | refine yC (k _ _ ?_) | refine zg (k _ ?_)); clear k K) | (rename_i A B C D a b c d; (first | refine zx (a ?_) | refine zy (b ?_) | refine zz (fun hc => c ?_) (fun hc => d ?_) | refine zv (b ?_) | refine zw (a ?_)) <;> clear a b c d A B C D <;> try simp only [yL] at hc)) | refine zA ?_ | refine zB ?_ | refine zF ?_)
    all_goals first | exact hbd (by decide) hS1 fun h => he h.1 | (exfalso; omega)
  have d1 : decide (c.ev < 1) = false := decide_eq_false (by omega)
  have d2 : decide (d.last < c.ev) = false := decide_eq_false (by omega)
  cases hlo : c.lo with
  | true =>
    rw [hlo] at k7
    repeat' (first | refine zn ?_ | refine zK rfl ?_ | refine zP rfl ?_ | ((first | refine zm ?_ | skip); intro _; intros; simp (disch := first | exact zd | fail) only [↓yS, yT, gresults, gone, ↓reduceIte, Nat.reduceEqDiff, Nat.reduceAdd, Nat.reduceMul, reduceCtorEq, Int.reduceToNat, g38, q4, k1, d1, d2, k7, k2, k3]; first | (rename_i K k; (first | refine yC (k _ _ ?_) | refine zg (k _ ?_)); clear k K) | (rename_i A B C D a b c d; (first | refine zx (a ?_) | refine zy (b ?_) | refine zz (fun hc => c ?_) (fun hc => d ?_) | refine zv (b ?_) | refine zw (a ?_)) <;> clear a b c d A B C D <;> try simp only [yL] at hc)) | refine zA ?_ | refine zB ?_ | refine zF ?_)
    all_goals first
      | (exact hbd (by decide) hS1 fun h => by have := h.2.1 hlo; omega)
      | (exact hPost _ _ ⟨ErrIs.yes ⟨he, fun _ => by omega, fun h => by rw [hlo] at h; cases h⟩, hS1⟩)
  | false =>
    rw [hlo] at k7
    cases hf : dfind c.ev L with
    | none =>
      have e1 := look_none hm1 hf
      repeat' (first | refine zn ?_ | refine zK rfl ?_ | refine zP rfl ?_ | ((first | refine zm ?_ | skip); intro _; intros; simp (disch := first | exact zd | fail) only [↓yS, yT, gresults, gone, ↓reduceIte, Nat.reduceEqDiff, Nat.reduceAdd, Nat.reduceMul, reduceCtorEq, Int.reduceToNat, g38, q4, k1, d1, d2, k7, e1, Bool.not_false]; first | (rename_i K k; (first | refine yC (k _ _ ?_) | refine zg (k _ ?_)); clear k K) | (rename_i A B C D a b c d; (first | refine zx (a ?_) | refine zy (b ?_) | refine zz (fun hc => c ?_) (fun hc => d ?_) | refine zv (b ?_) | refine zw (a ?_)) <;> clear a b c d A B C D <;> try simp only [yL] at hc)) | refine zA ?_ | refine zB ?_ | refine zF ?_)
      exact hbd (by decide) hS1 fun h => by
        obtain ⟨k, h1, h2, _⟩ := h.2.2 hlo
        have := (hL c.ev k).2 ⟨k, rfl, h1, h2⟩
        rw [hf] at this; cases this
    | some n =>
      have e1 := look_some hm1 hf
      obtain ⟨k, rfl, hk, hid⟩ := (hL _ _).1 hf
      have hun : ∀ k', k' < d.E.length → d.E[k']!.id = c.ev → k' = k := fun k' h1 h2 => by
        have := (hL c.ev k').2 ⟨k', rfl, h1, h2⟩
        rw [hf] at this
        simp only [Option.some.injEq] at this
        omega
      by_cases h1 : 0 ≤ c.fr ∧ c.fr < c.to
      case neg =>
        repeat' (first | refine zn ?_ | refine zK rfl ?_ | refine zP rfl ?_ | ((first | refine zm ?_ | skip); intro _; intros; simp (disch := first | exact zd | fail) only [↓yS, yT, gresults, gone, ↓reduceIte, Nat.reduceEqDiff, Nat.reduceAdd, Nat.reduceMul, reduceCtorEq, Int.reduceToNat, g38, q4, k1, d1, d2, k7, e1, Bool.not_true, k2, k3]; first | (rename_i K k; (first | refine yC (k _ _ ?_) | refine zg (k _ ?_)); clear k K) | (rename_i A B C D a b c d; (first | refine zx (a ?_) | refine zy (b ?_) | refine zz (fun hc => c ?_) (fun hc => d ?_) | refine zv (b ?_) | refine zw (a ?_)) <;> clear a b c d A B C D <;> try simp only [yL] at hc)) | refine zA ?_ | refine zB ?_ | refine zF ?_)
        all_goals first | (exact hbd (by decide) hS1 fun h => by
                            obtain ⟨_, _, _, h2, h3, _⟩ := h.2.2 hlo
                            exact h1 ⟨h2, h3⟩) | (exfalso; omega)
      have d3 : decide (c.fr < 0) = false := decide_eq_false (by omega)
      have d4 : decide (c.to ≤ c.fr) = false := decide_eq_false (by omega)
      have hev := hd.ev.later hw hS1
      have hsl := hev.rd.rd.isSl
      have e2 := hev.rowN hk
      have hsE := hs.E.2 _ (bang_mem hk)
      repeat' (first | refine zn ?_ | refine zK rfl ?_ | refine zP rfl ?_ | ((first | refine zm ?_ | skip); intro _; intros; simp (disch := first | exact zd | fail) only [↓yS, yT, gresults, gone, ↓reduceIte, Nat.reduceEqDiff, Nat.reduceAdd, Nat.reduceMul, reduceCtorEq, Int.reduceToNat, g38, q4, q6, k1, d1, d2, d3, d4, k7, e1, Bool.not_true, k2, k3, hsl.ia, e2]; first | (rename_i K k; (first | refine yC (k _ _ ?_) | refine zg (k _ ?_)); clear k K) | (rename_i A B C D a b c d; (first | refine zx (a ?_) | refine zy (b ?_) | refine zz (fun hc => c ?_) (fun hc => d ?_) | refine zv (b ?_) | refine zw (a ?_)) <;> clear a b c d A B C D <;> try simp only [yL] at hc)) | refine zA ?_ | refine zB ?_ | refine zF ?_)
      intro K' hK'; refine G1_callM (by simp only [gtarget, ↓GArg.ev, ↓evs, ↓Tr.get_set, Nat.reduceEqDiff, if_true, if_false, ↓reduceIte, Option.map_some]; rfl) (lenE_ok (wf_up hS1.wf) (hev.at_ hk).up hsE.2.2.2.1 hsE.2.2.2.2) fun r4 H4 hq => hK' _ _ ?_
      obtain ⟨rfl, hS4⟩ := hq
      have hS5 := hS1.trans (Same.down hS1.wf hS4)
      repeat' (first | refine zn ?_ | refine zK rfl ?_ | refine zP rfl ?_ | ((first | refine zm ?_ | skip); intro _; intros; simp (disch := first | exact zd | fail) only [↓yS, yT, gresults, gone, ↓reduceIte, Nat.reduceEqDiff, Nat.reduceAdd, Nat.reduceMul, reduceCtorEq, Int.reduceToNat, g38]; first | (rename_i K k; (first | refine yC (k _ _ ?_) | refine zg (k _ ?_)); clear k K) | (rename_i A B C D a b c d; (first | refine zx (a ?_) | refine zy (b ?_) | refine zz (fun hc => c ?_) (fun hc => d ?_) | refine zv (b ?_) | refine zw (a ?_)) <;> clear a b c d A B C D <;> try simp only [yL] at hc)) | refine zA ?_ | refine zB ?_ | refine zF ?_)
      all_goals first
        | (exact hbd (by decide) hS5 fun h => by
            obtain ⟨k', h2, h3, h4, h5, h6⟩ := h.2.2 hlo
            have := hun k' h2 h3
            subst this
            omega)
        | (exact hPost _ _ ⟨ErrIs.yes ⟨he, fun (h : c.lo = true) => absurd h (by rw [hlo]; decide), fun (_ : c.lo = false) => ⟨k, hk, hid, h1.1, h1.2, by omega⟩⟩, hS5⟩)
end Go.Gh
