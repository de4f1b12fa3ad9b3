/-
  rowbreak, walked: the sheet: open, n, length, fits, cost.
-/
import Derived.Test.YtbhgpiakeimmlaaDoorRbW3
namespace Go.Gh
set_option linter.unusedSimpArgs false
set_option linter.unusedVariables false
open Go.RowKit
set_option maxRecDepth 4000

theorem tkGo_mem : ∀ {l : List Tk}, tkGo l = 0 → ∀ x ∈ l, tk1 x = 0 := fun h => tkGo_ok h
theorem tkF_go {l : List Tk} (h : tkF l = 0) : tkGo l = 0 ∧ l.length ≤ 200 := by
  unfold tkF at h
  split at h
  · cases h
  · exact ⟨h, by omega⟩
theorem tkN_len {x : Tk} (h : tk1 x = 0) : lenN (strB x.t) = tkN x := by
  rw [lenN_eq, if_pos (tk1_ok h).2.2.1]; rfl
theorem tkN_le (x : Tk) : tkN x ≤ x.t.length := by
  have := rns_len (strB x.t)
  rw [strB_size] at this; exact this
/-- the sums of the lengths of the first words -/
def sumsL (l : List Tk) (j : Nat) : List Int := (List.range (j + 1)).map fun k => (smN l k : Int)
theorem sumsL_len (l : List Tk) (j : Nat) : (sumsL l j).length = j + 1 := by simp [sumsL]
theorem sumsL_at (l : List Tk) {j k : Nat} (h : k ≤ j) : (ints .i64 (sumsL l j))[k]? = some (.int .i64 (smN l k)) := by
  rw [ints_get]
  simp [sumsL, List.getElem?_range (show k < j + 1 by omega)]
theorem sumsL_succ (l : List Tk) (j : Nat) : ints .i64 (sumsL l (j + 1)) = ints .i64 (sumsL l j) ++ [.int .i64 (smN l (j + 1))] := by
  simp [ints, sumsL, List.range_succ]
theorem sumsL_zero (l : List Tk) : ints .i64 (sumsL l 0) = [.int .i64 0] := by
  simp [ints, sumsL, smN_zero]
def shC (p : Par) (sv : Value) (a : Int) : List Value := parC p ++ [sv, .int .i64 a]
theorem shC_len (p : Par) (sv : Value) (a : Int) : (shC p sv a).length = 17 := rfl
theorem shC_0 (p : Par) (sv : Value) (a : Int) : (shC p sv a)[0]? = some p.v := rfl
theorem shC_1 (p : Par) (sv : Value) (a : Int) : (shC p sv a)[1]? = some (.int .i64 p.w) := rfl
theorem shC_2 (p : Par) (sv : Value) (a : Int) : (shC p sv a)[2]? = some (.int .i64 p.r) := rfl
theorem shC_15 (p : Par) (sv : Value) (a : Int) : (shC p sv a)[15]? = some sv := rfl
theorem shC_16 (p : Par) (sv : Value) (a : Int) : (shC p sv a)[16]? = some (.int .i64 a) := rfl
/-- a sheet of a paragraph -/
structure ShtA (H : GHeap) (v : Value) (p : Par) (a : Int) : Prop where
  ex : ∃ i sv, v = .pointer (some ⟨i, 0, none⟩) ∧ i < H.len ∧ H.cs i = some (shC p sv a) ∧ GRd H 1 sv (p.l.length + 1) (ints .i64 (sumsL p.l p.l.length))
abbrev Sht (H : GHeap) (v : Value) (p : Par) : Prop := ShtA H v p p.aim
theorem ShtA.later {H H' : GHeap} {v : Value} {p : Par} {a : Int} (h : ShtA H v p a) (hs : Same H H') : ShtA H' v p a := by
  obtain ⟨i, sv, e, h1, h2, h3⟩ := h.ex
  exact ⟨i, sv, e, Nat.lt_of_lt_of_le h1 hs.len, by rw [hs.cs h1]; exact h2, h3.same hs⟩
/-- what is known of a paragraph that passed the checks -/
structure PK (H : GHeap) (p : Par) : Prop where
  pr : PR H p
  ok : parF p = 0
theorem PK.later {H H' : GHeap} {p : Par} (h : PK H p) (hw : H.wf) (hs : Same H H') : PK H' p := ⟨h.pr.later hw hs, h.ok⟩
theorem PK.n {H : GHeap} {p : Par} (h : PK H p) : 1 ≤ p.l.length ∧ p.l.length ≤ 200 := ⟨Par.pos h.ok, (tkF_go (parF_ok h.ok).1).2⟩
theorem PK.tkN {H : GHeap} {p : Par} (h : PK H p) : ∀ x ∈ p.l, Go.Gh.tkN x ≤ 140737488355328 := fun x hx => Nat.le_trans (tkN_le x) (h.pr.sh x hx)
theorem PK.sm {H : GHeap} {p : Par} (h : PK H p) {k : Nat} (hk : k ≤ p.l.length) : smN p.l k ≤ 28147497671065600 := by
  have h1 := smN_bd h.tkN k
  have h2 := h.n
  have : k * 140737488355328 ≤ 200 * 140737488355328 := Nat.mul_le_mul_right _ (by omega)
  omega
theorem PK.st {H : GHeap} {p : Par} (h : PK H p) {k : Nat} (hk : k < p.l.length) : 0 ≤ p.l[k]!.s ∧ p.l[k]!.s ≤ 5 := by
  have := (tk1_ok (tkGo_ok (tkF_go (parF_ok h.ok).1).1 _ (mem_bangK hk))).2.2.2
  exact this
theorem sn_ok {H : GHeap} {v : Value} {p : Par} {a : Int} (hs : ShtA H v p a) (hk : PR H p) : ∃ r H', gev G 43 [v] H = some (r, H') ∧ (r = .int .i64 p.l.length ∧ H' = H) := by
  refine gev_GW (f := 43) rfl fun Post hPost => ?_
  obtain ⟨i, sv, rfl, hi, hc, hr⟩ := hs.ex
  have e : ∀ o, H.rd i o = (shC p sv a)[o]? := fun o => by simp only [GHeap.rd, hc]; rfl
  have hsl := hk.kr.isSl
  simp only [frameOf, Nat.reduceAdd]
  repeat' (first | refine zA ?_ | refine zB ?_ | refine zC ?_ | refine zD ?_ | refine zE ?_ | refine zF ?_ | refine zG ?_ | refine zH ?_ | refine zI ?_ | refine zJ ?_ | refine zK rfl ?_ | refine zL ?_ | refine zM ?_ | refine zN ?_ | refine zO ?_ | refine zP rfl ?_ | refine zQ ?_ | ((first | refine zR ?_ | refine zS ?_ | refine zT ?_ | skip); intro K k; simp (disch := (first | (simp only [yD2, beq_self_eq_true, Nat.reduceLT, Nat.reduceAdd]; done) | ((fail_if_success (apply Bool.eq_iff_iff.2)); first | omega | (simp only [yD2, beq_self_eq_true, Nat.reduceLT, Nat.reduceAdd] <;> omega)) | fail)) only [↓yS, yT, ↓reduceIte, Nat.reduceEqDiff, Nat.reduceAdd, Nat.reduceMul, reduceCtorEq, Int.reduceToNat, g43, e, shC_0, hsl.len]; refine yC (k _ _ ?_); clear k K) | ((first | refine zU ?_ | refine zV ?_ | refine zW ?_); intro A B C D a b c d; simp only [↓yG, Nat.reduceEqDiff, ↓reduceIte, g43, e, shC_0, hsl.len]; (first | refine zX (a ?_) | refine zY (b ?_) | refine zZ (fun hc => c ?_) (fun hc => d ?_)) <;> clear a b c d A B C D <;> try simp only [yL] at hc) | (refine yA ?_; intro A a; simp only [↓yG, Nat.reduceEqDiff, ↓reduceIte, g43, e, shC_0, hsl.len]; refine yB (a ?_); clear a A) | (refine yD ?_; simp only [gresults, ↓yG, Nat.reduceEqDiff, ↓reduceIte, Option.bind_some, gld_1, gld_n, g43, e, shC_0, hsl.len]; refine ⟨_, rfl, ?_⟩; simp only [gone]))
  exact hPost _ _ ⟨rfl, rfl⟩
theorem slen_ok {H : GHeap} {v : Value} {p : Par} {a : Int} (hs : ShtA H v p a) (hk : PK H p) {i j : Nat} (hi : i ≤ p.l.length) (hj : j ≤ p.l.length) :
    ∃ r H', gev G 46 [v, .int .i64 i, .int .i64 j] H = some (r, H') ∧ (r = .int .i64 (lenR p.l i j) ∧ H' = H) := by
  refine gev_GW (f := 46) rfl fun Post hPost => ?_
  obtain ⟨id, sv, rfl, hid, hc, hr⟩ := hs.ex
  have e : ∀ o, H.rd id o = (shC p sv a)[o]? := fun o => by simp only [GHeap.rd, hc]; rfl
  have hsl := hr.isSl
  have hn := hk.n
  have b1 := hk.sm hi
  have b2 := hk.sm hj
  have e1 : H.rd (blk sv) (ofs sv + i) = some (.int .i64 (smN p.l i)) := by
    rw [hr.rd (by rw [ints_length, sumsL_len]; omega)]; exact sumsL_at p.l hi
  have e2 : H.rd (blk sv) (ofs sv + j) = some (.int .i64 (smN p.l j)) := by
    rw [hr.rd (by rw [ints_length, sumsL_len]; omega)]; exact sumsL_at p.l hj
  have hx1 : ((i : Int)).toNat = i := by omega
  have hx2 : ((j : Int)).toNat = j := by omega
  simp only [frameOf, Nat.reduceAdd]
  repeat' (first | refine zA ?_ | refine zB ?_ | refine zC ?_ | refine zD ?_ | refine zE ?_ | refine zF ?_ | refine zG ?_ | refine zH ?_ | refine zI ?_ | refine zJ ?_ | refine zK rfl ?_ | refine zL ?_ | refine zM ?_ | refine zN ?_ | refine zO ?_ | refine zP rfl ?_ | refine zQ ?_ | ((first | refine zR ?_ | refine zS ?_ | refine zT ?_ | skip); intro K k; simp (disch := (first | (simp only [yD2, beq_self_eq_true, Nat.reduceLT, Nat.reduceAdd]; done) | ((fail_if_success (apply Bool.eq_iff_iff.2)); first | omega | (simp only [yD2, beq_self_eq_true, Nat.reduceLT, Nat.reduceAdd] <;> omega)) | fail)) only [↓yS, yT, ↓reduceIte, Nat.reduceEqDiff, Nat.reduceAdd, Nat.reduceMul, reduceCtorEq, Int.reduceToNat, g46, e, shC_15, hsl.ia, e1, e2, hx1, hx2, Nat.mul_one]; refine yC (k _ _ ?_); clear k K) | ((first | refine zU ?_ | refine zV ?_ | refine zW ?_); intro A B C D a b c d; simp only [↓yG, Nat.reduceEqDiff, ↓reduceIte, g46, e, shC_15, hsl.ia, e1, e2, hx1, hx2, Nat.mul_one]; (first | refine zX (a ?_) | refine zY (b ?_) | refine zZ (fun hc => c ?_) (fun hc => d ?_)) <;> clear a b c d A B C D <;> try simp only [yL] at hc) | (refine yA ?_; intro A a; simp only [↓yG, Nat.reduceEqDiff, ↓reduceIte, g46, e, shC_15, hsl.ia, e1, e2, hx1, hx2, Nat.mul_one]; refine yB (a ?_); clear a A) | (refine yD ?_; simp only [gresults, ↓yG, Nat.reduceEqDiff, ↓reduceIte, Option.bind_some, gld_1, gld_n, g46, e, shC_15, hsl.ia, e1, e2, hx1, hx2, Nat.mul_one]; refine ⟨_, rfl, ?_⟩; simp only [gone]))
  refine hPost _ _ ⟨?_, rfl⟩
  unfold lenR; rfl
theorem fits_ok {H : GHeap} {v : Value} {p : Par} (hs : Sht H v p) (hk : PK H p) {i j : Nat} (hi : i ≤ p.l.length) (hj : j ≤ p.l.length) :
    ∃ r H', gev G 37 [v, .int .i64 i, .int .i64 j] H = some (r, H') ∧ (r = .bool (p.fit i j) ∧ H' = H) := by
  refine gev_GW (f := 37) rfl fun Post hPost => ?_
  have hl := fun H0 (h : Sht H0 v p) (k : PK H0 p) => slen_ok h k hi hj
  obtain ⟨id, sv, rfl, hid, hc, hr⟩ := hs.ex
  have e : ∀ o, H.rd id o = (shC p sv p.aim)[o]? := fun o => by simp only [GHeap.rd, hc]; rfl
  have hsu : Sht H.up (.pointer (some ⟨id, 0, none⟩)) p := ⟨id, sv, rfl, hid, hc, hr⟩
  have hku : PK H.up p := ⟨⟨⟨hk.pr.kr.rd, hk.pr.kr.sl⟩, hk.pr.sh, hk.pr.le, hk.pr.ww, hk.pr.rr⟩, hk.ok⟩
  simp only [frameOf, Nat.reduceAdd]
  repeat' (first | refine zA ?_ | refine zB ?_ | refine zC ?_ | refine zD ?_ | refine zE ?_ | refine zF ?_ | refine zG ?_ | refine zH ?_ | refine zI ?_ | refine zJ ?_ | refine zK rfl ?_ | refine zL ?_ | refine zM ?_ | refine zN ?_ | refine zO ?_ | refine zP rfl ?_ | refine zQ ?_ | ((first | refine zR ?_ | refine zS ?_ | refine zT ?_ | skip); intro K k; simp (disch := (first | (simp only [yD2, beq_self_eq_true, Nat.reduceLT, Nat.reduceAdd]; done) | ((fail_if_success (apply Bool.eq_iff_iff.2)); first | omega | (simp only [yD2, beq_self_eq_true, Nat.reduceLT, Nat.reduceAdd] <;> omega)) | fail)) only [↓yS, yT, ↓reduceIte, Nat.reduceEqDiff, Nat.reduceAdd, Nat.reduceMul, reduceCtorEq, Int.reduceToNat, g37]; refine yC (k _ _ ?_); clear k K) | ((first | refine zU ?_ | refine zV ?_ | refine zW ?_); intro A B C D a b c d; simp only [↓yG, Nat.reduceEqDiff, ↓reduceIte, g37]; (first | refine zX (a ?_) | refine zY (b ?_) | refine zZ (fun hc => c ?_) (fun hc => d ?_)) <;> clear a b c d A B C D <;> try simp only [yL] at hc) | (refine yA ?_; intro A a; simp only [↓yG, Nat.reduceEqDiff, ↓reduceIte, g37]; refine yB (a ?_); clear a A) | (refine yD ?_; simp only [gresults, ↓yG, Nat.reduceEqDiff, ↓reduceIte, Option.bind_some, gld_1, gld_n, g37]; refine ⟨_, rfl, ?_⟩; simp only [gone]))
  refine Gw_s fun K' hK' => G1_callM (by simp only [gtarget, ↓GArg.ev, ↓evs, ↓Tr.get_set, Nat.reduceEqDiff, if_true, if_false, ↓reduceIte, Option.map_some]; rfl) (hl _ hsu hku) fun r1 H1 hq => hK' _ _ ?_
  obtain ⟨rfl, rfl⟩ := hq
  rw [updown]
  repeat' (first | refine zA ?_ | refine zB ?_ | refine zC ?_ | refine zD ?_ | refine zE ?_ | refine zF ?_ | refine zG ?_ | refine zH ?_ | refine zI ?_ | refine zJ ?_ | refine zK rfl ?_ | refine zL ?_ | refine zM ?_ | refine zN ?_ | refine zO ?_ | refine zP rfl ?_ | refine zQ ?_ | ((first | refine zR ?_ | refine zS ?_ | refine zT ?_ | skip); intro K k; simp (disch := (first | (simp only [yD2, beq_self_eq_true, Nat.reduceLT, Nat.reduceAdd]; done) | ((fail_if_success (apply Bool.eq_iff_iff.2)); first | omega | (simp only [yD2, beq_self_eq_true, Nat.reduceLT, Nat.reduceAdd] <;> omega)) | fail)) only [↓yS, yT, ↓reduceIte, Nat.reduceEqDiff, Nat.reduceAdd, Nat.reduceMul, reduceCtorEq, Int.reduceToNat, g37, e, shC_1]; refine yC (k _ _ ?_); clear k K) | ((first | refine zU ?_ | refine zV ?_ | refine zW ?_); intro A B C D a b c d; simp only [↓yG, Nat.reduceEqDiff, ↓reduceIte, g37, e, shC_1]; (first | refine zX (a ?_) | refine zY (b ?_) | refine zZ (fun hc => c ?_) (fun hc => d ?_)) <;> clear a b c d A B C D <;> try simp only [yL] at hc) | (refine yA ?_; intro A a; simp only [↓yG, Nat.reduceEqDiff, ↓reduceIte, g37, e, shC_1]; refine yB (a ?_); clear a A) | (refine yD ?_; simp only [gresults, ↓yG, Nat.reduceEqDiff, ↓reduceIte, Option.bind_some, gld_1, gld_n, g37, e, shC_1]; refine ⟨_, rfl, ?_⟩; simp only [gone]))
  exact hPost _ _ ⟨rfl, rfl⟩
theorem cost_ok {H : GHeap} (hw : H.wf) {v : Value} {p : Par} (hs : Sht H v p) (hk : PK H p) {i j : Nat} (hi : i ≤ p.l.length) (hj : j ≤ p.l.length) (hj1 : 1 ≤ j) :
    ∃ r H', gev G 38 [v, .int .i64 i, .int .i64 j] H = some (r, H') ∧ (r = .int .i64 (p.row i j) ∧ Same H H') := by
  refine gev_GW (f := 38) rfl fun Post hPost => ?_
  have hl := fun H0 (h : Sht H0 v p) (k : PK H0 p) => slen_ok h k hi hj
  have hn := fun H0 (h : Sht H0 v p) (k : PK H0 p) => sn_ok h k.pr
  obtain ⟨id, sv, hv, hid, hc, hr⟩ := hs.ex
  subst hv
  have e : ∀ o, H.rd id o = (shC p sv p.aim)[o]? := fun o => by simp only [GHeap.rd, hc]; rfl
  have et : H.rdn id 3 12 = some (tabV p.tb) := by simp only [GHeap.rdn, hc]; rfl
  have hsu : Sht H.up (.pointer (some ⟨id, 0, none⟩)) p := ⟨id, sv, rfl, hid, hc, hr⟩
  have hku : PK H.up p := ⟨⟨⟨hk.pr.kr.rd, hk.pr.kr.sl⟩, hk.pr.sh, hk.pr.le, hk.pr.ww, hk.pr.rr⟩, hk.ok⟩
  have hsl := hk.pr.kr.isSl
  have hn2 := hk.n
  have hpen := (parF_ok hk.ok).2.2.2.2.2.2
  have ht : (tabV p.tb).cells.all flatV = true := tab_cflat _
  simp only [frameOf, Nat.reduceAdd]
  repeat' (first | refine zA ?_ | refine zB ?_ | refine zC ?_ | refine zD ?_ | refine zE ?_ | refine zF ?_ | refine zG ?_ | refine zH ?_ | refine zI ?_ | refine zJ ?_ | refine zK rfl ?_ | refine zL ?_ | refine zM ?_ | refine zN ?_ | refine zO ?_ | refine zP rfl ?_ | refine zQ ?_ | ((first | refine zR ?_ | refine zS ?_ | refine zT ?_ | skip); intro K k; simp (disch := (first | (simp only [yD2, beq_self_eq_true, Nat.reduceLT, Nat.reduceAdd]; done) | ((fail_if_success (apply Bool.eq_iff_iff.2)); first | omega | (simp only [yD2, beq_self_eq_true, Nat.reduceLT, Nat.reduceAdd] <;> omega)) | fail)) only [↓yS, yT, ↓reduceIte, Nat.reduceEqDiff, Nat.reduceAdd, Nat.reduceMul, reduceCtorEq, Int.reduceToNat, g38]; refine yC (k _ _ ?_); clear k K) | ((first | refine zU ?_ | refine zV ?_ | refine zW ?_); intro A B C D a b c d; simp only [↓yG, Nat.reduceEqDiff, ↓reduceIte, g38]; (first | refine zX (a ?_) | refine zY (b ?_) | refine zZ (fun hc => c ?_) (fun hc => d ?_)) <;> clear a b c d A B C D <;> try simp only [yL] at hc) | (refine yA ?_; intro A a; simp only [↓yG, Nat.reduceEqDiff, ↓reduceIte, g38]; refine yB (a ?_); clear a A) | (refine yD ?_; simp only [gresults, ↓yG, Nat.reduceEqDiff, ↓reduceIte, Option.bind_some, gld_1, gld_n, g38]; refine ⟨_, rfl, ?_⟩; simp only [gone]))
  refine Gw_s fun K' hK' => G1_call (by simp only [gtarget, ↓GArg.ev, ↓evs, ↓Tr.get_set, Nat.reduceEqDiff, if_true, if_false, ↓reduceIte, Option.map_some]; rfl) (hn _ hs hk) fun r1 H1 hq => hK' _ _ ?_
  obtain ⟨rfl, rfl⟩ := hq
  by_cases hjn : j < p.l.length
  · have e1 : H1.rd (blk p.v) (ofs p.v + (j - 1) * 2 + 1) = some (.int .i64 p.l[j - 1]!.s) := hk.pr.kr.row (by omega) (by decide)
    have hx : ((j : Int) - 1).toNat = j - 1 := by omega
    have hst : p.st j = p.l[j - 1]!.s := if_pos hjn
    have hb := hk.st (k := j - 1) (by omega)
    repeat' (first | (exfalso; omega) | refine zA ?_ | refine zB ?_ | refine zC ?_ | refine zD ?_ | refine zE ?_ | refine zF ?_ | refine zG ?_ | refine zH ?_ | refine zI ?_ | refine zJ ?_ | refine zK rfl ?_ | refine zL ?_ | refine zM ?_ | refine zN ?_ | refine zO ?_ | refine zP rfl ?_ | refine zQ ?_ | ((first | refine zR ?_ | refine zS ?_ | refine zT ?_ | skip); intro K k; simp (disch := (first | (simp only [yD2, beq_self_eq_true, Nat.reduceLT, Nat.reduceAdd]; done) | ((fail_if_success (apply Bool.eq_iff_iff.2)); first | omega | (simp only [yD2, beq_self_eq_true, Nat.reduceLT, Nat.reduceAdd] <;> omega)) | fail)) only [↓yS, yT, ↓reduceIte, Nat.reduceEqDiff, Nat.reduceAdd, Nat.reduceMul, reduceCtorEq, Int.reduceToNat, g38, e, shC_0, shC_16, hsl.ia, e1, hx, et]; refine yC (k _ _ ?_); clear k K) | ((first | refine zU ?_ | refine zV ?_ | refine zW ?_); intro A B C D a b c d; simp only [↓yG, Nat.reduceEqDiff, ↓reduceIte, g38, e, shC_0, shC_16, hsl.ia, e1, hx, et]; (first | refine zX (a ?_) | refine zY (b ?_) | refine zZ (fun hc => c ?_) (fun hc => d ?_)) <;> clear a b c d A B C D <;> try simp only [yL] at hc) | (refine yA ?_; intro A a; simp only [↓yG, Nat.reduceEqDiff, ↓reduceIte, g38, e, shC_0, shC_16, hsl.ia, e1, hx, et]; refine yB (a ?_); clear a A) | (refine yD ?_; simp only [gresults, ↓yG, Nat.reduceEqDiff, ↓reduceIte, Option.bind_some, gld_1, gld_n, g38, e, shC_0, shC_16, hsl.ia, e1, hx, et]; refine ⟨_, rfl, ?_⟩; simp only [gone]))
    refine Gw_s fun K' hK' => G1_callM (by simp only [gtarget, ↓GArg.ev, ↓evs, ↓Tr.get_set, Nat.reduceEqDiff, if_true, if_false, ↓reduceIte, Option.map_some]; rfl) (hl _ hsu hku) fun r2 H2 hq => hK' _ _ ?_
    obtain ⟨rfl, rfl⟩ := hq
    rw [updown]
    repeat' (first | refine zA ?_ | refine zB ?_ | refine zC ?_ | refine zD ?_ | refine zE ?_ | refine zF ?_ | refine zG ?_ | refine zH ?_ | refine zI ?_ | refine zJ ?_ | refine zK rfl ?_ | refine zL ?_ | refine zM ?_ | refine zN ?_ | refine zO ?_ | refine zP rfl ?_ | refine zQ ?_ | ((first | refine zR ?_ | refine zS ?_ | refine zT ?_ | skip); intro K k; simp (disch := (first | (simp only [yD2, beq_self_eq_true, Nat.reduceLT, Nat.reduceAdd]; done) | ((fail_if_success (apply Bool.eq_iff_iff.2)); first | omega | (simp only [yD2, beq_self_eq_true, Nat.reduceLT, Nat.reduceAdd] <;> omega)) | fail)) only [↓yS, yT, ↓reduceIte, Nat.reduceEqDiff, Nat.reduceAdd, Nat.reduceMul, reduceCtorEq, Int.reduceToNat, g38]; refine yC (k _ _ ?_); clear k K) | ((first | refine zU ?_ | refine zV ?_ | refine zW ?_); intro A B C D a b c d; simp only [↓yG, Nat.reduceEqDiff, ↓reduceIte, g38]; (first | refine zX (a ?_) | refine zY (b ?_) | refine zZ (fun hc => c ?_) (fun hc => d ?_)) <;> clear a b c d A B C D <;> try simp only [yL] at hc) | (refine yA ?_; intro A a; simp only [↓yG, Nat.reduceEqDiff, ↓reduceIte, g38]; refine yB (a ?_); clear a A) | (refine yD ?_; simp only [gresults, ↓yG, Nat.reduceEqDiff, ↓reduceIte, Option.bind_some, gld_1, gld_n, g38]; refine ⟨_, rfl, ?_⟩; simp only [gone]))
    refine Gw_s fun K' hK' => G1_callM (by simp only [gtarget, ↓GArg.ev, ↓evs, ↓Tr.get_set, Nat.reduceEqDiff, if_true, if_false, ↓reduceIte, Option.map_some]; rfl) (row_ok hpen (H := H1.up) (wf_up hw)) fun r3 H3 hq => hK' _ _ ?_
    obtain ⟨rfl, hS⟩ := hq
    unfold rowV2
    repeat' (first | refine zA ?_ | refine zB ?_ | refine zC ?_ | refine zD ?_ | refine zE ?_ | refine zF ?_ | refine zG ?_ | refine zH ?_ | refine zI ?_ | refine zJ ?_ | refine zK rfl ?_ | refine zL ?_ | refine zM ?_ | refine zN ?_ | refine zO ?_ | refine zP rfl ?_ | refine zQ ?_ | ((first | refine zR ?_ | refine zS ?_ | refine zT ?_ | skip); intro K k; simp (disch := (first | (simp only [yD2, beq_self_eq_true, Nat.reduceLT, Nat.reduceAdd]; done) | ((fail_if_success (apply Bool.eq_iff_iff.2)); first | omega | (simp only [yD2, beq_self_eq_true, Nat.reduceLT, Nat.reduceAdd] <;> omega)) | fail)) only [↓yS, yT, ↓reduceIte, Nat.reduceEqDiff, Nat.reduceAdd, Nat.reduceMul, reduceCtorEq, Int.reduceToNat, g38]; refine yC (k _ _ ?_); clear k K) | ((first | refine zU ?_ | refine zV ?_ | refine zW ?_); intro A B C D a b c d; simp only [↓yG, Nat.reduceEqDiff, ↓reduceIte, g38]; (first | refine zX (a ?_) | refine zY (b ?_) | refine zZ (fun hc => c ?_) (fun hc => d ?_)) <;> clear a b c d A B C D <;> try simp only [yL] at hc) | (refine yA ?_; intro A a; simp only [↓yG, Nat.reduceEqDiff, ↓reduceIte, g38]; refine yB (a ?_); clear a A) | (refine yD ?_; simp only [gresults, ↓yG, Nat.reduceEqDiff, ↓reduceIte, Option.bind_some, gld_1, gld_n, g38]; refine ⟨_, rfl, ?_⟩; simp only [gone]))
    refine hPost _ _ ⟨?_, Same.down hw hS⟩
    rw [Par.row, hst]
  · have hst : p.st j = -1 := if_neg hjn
    repeat' (first | (exfalso; omega) | refine zA ?_ | refine zB ?_ | refine zC ?_ | refine zD ?_ | refine zE ?_ | refine zF ?_ | refine zG ?_ | refine zH ?_ | refine zI ?_ | refine zJ ?_ | refine zK rfl ?_ | refine zL ?_ | refine zM ?_ | refine zN ?_ | refine zO ?_ | refine zP rfl ?_ | refine zQ ?_ | ((first | refine zR ?_ | refine zS ?_ | refine zT ?_ | skip); intro K k; simp (disch := (first | (simp only [yD2, beq_self_eq_true, Nat.reduceLT, Nat.reduceAdd]; done) | ((fail_if_success (apply Bool.eq_iff_iff.2)); first | omega | (simp only [yD2, beq_self_eq_true, Nat.reduceLT, Nat.reduceAdd] <;> omega)) | fail)) only [↓yS, yT, ↓reduceIte, Nat.reduceEqDiff, Nat.reduceAdd, Nat.reduceMul, reduceCtorEq, Int.reduceToNat, g38, e, shC_16, et]; refine yC (k _ _ ?_); clear k K) | ((first | refine zU ?_ | refine zV ?_ | refine zW ?_); intro A B C D a b c d; simp only [↓yG, Nat.reduceEqDiff, ↓reduceIte, g38, e, shC_16, et]; (first | refine zX (a ?_) | refine zY (b ?_) | refine zZ (fun hc => c ?_) (fun hc => d ?_)) <;> clear a b c d A B C D <;> try simp only [yL] at hc) | (refine yA ?_; intro A a; simp only [↓yG, Nat.reduceEqDiff, ↓reduceIte, g38, e, shC_16, et]; refine yB (a ?_); clear a A) | (refine yD ?_; simp only [gresults, ↓yG, Nat.reduceEqDiff, ↓reduceIte, Option.bind_some, gld_1, gld_n, g38, e, shC_16, et]; refine ⟨_, rfl, ?_⟩; simp only [gone]))
    refine Gw_s fun K' hK' => G1_callM (by simp only [gtarget, ↓GArg.ev, ↓evs, ↓Tr.get_set, Nat.reduceEqDiff, if_true, if_false, ↓reduceIte, Option.map_some]; rfl) (hl _ hsu hku) fun r2 H2 hq => hK' _ _ ?_
    obtain ⟨rfl, rfl⟩ := hq
    rw [updown]
    repeat' (first | refine zA ?_ | refine zB ?_ | refine zC ?_ | refine zD ?_ | refine zE ?_ | refine zF ?_ | refine zG ?_ | refine zH ?_ | refine zI ?_ | refine zJ ?_ | refine zK rfl ?_ | refine zL ?_ | refine zM ?_ | refine zN ?_ | refine zO ?_ | refine zP rfl ?_ | refine zQ ?_ | ((first | refine zR ?_ | refine zS ?_ | refine zT ?_ | skip); intro K k; simp (disch := (first | (simp only [yD2, beq_self_eq_true, Nat.reduceLT, Nat.reduceAdd]; done) | ((fail_if_success (apply Bool.eq_iff_iff.2)); first | omega | (simp only [yD2, beq_self_eq_true, Nat.reduceLT, Nat.reduceAdd] <;> omega)) | fail)) only [↓yS, yT, ↓reduceIte, Nat.reduceEqDiff, Nat.reduceAdd, Nat.reduceMul, reduceCtorEq, Int.reduceToNat, g38]; refine yC (k _ _ ?_); clear k K) | ((first | refine zU ?_ | refine zV ?_ | refine zW ?_); intro A B C D a b c d; simp only [↓yG, Nat.reduceEqDiff, ↓reduceIte, g38]; (first | refine zX (a ?_) | refine zY (b ?_) | refine zZ (fun hc => c ?_) (fun hc => d ?_)) <;> clear a b c d A B C D <;> try simp only [yL] at hc) | (refine yA ?_; intro A a; simp only [↓yG, Nat.reduceEqDiff, ↓reduceIte, g38]; refine yB (a ?_); clear a A) | (refine yD ?_; simp only [gresults, ↓yG, Nat.reduceEqDiff, ↓reduceIte, Option.bind_some, gld_1, gld_n, g38]; refine ⟨_, rfl, ?_⟩; simp only [gone]))
    refine Gw_s fun K' hK' => G1_callM (by simp only [gtarget, ↓GArg.ev, ↓evs, ↓Tr.get_set, Nat.reduceEqDiff, if_true, if_false, ↓reduceIte, Option.map_some]; rfl) (row_ok hpen (H := H1.up) (wf_up hw)) fun r3 H3 hq => hK' _ _ ?_
    obtain ⟨rfl, hS⟩ := hq
    unfold rowV2
    repeat' (first | refine zA ?_ | refine zB ?_ | refine zC ?_ | refine zD ?_ | refine zE ?_ | refine zF ?_ | refine zG ?_ | refine zH ?_ | refine zI ?_ | refine zJ ?_ | refine zK rfl ?_ | refine zL ?_ | refine zM ?_ | refine zN ?_ | refine zO ?_ | refine zP rfl ?_ | refine zQ ?_ | ((first | refine zR ?_ | refine zS ?_ | refine zT ?_ | skip); intro K k; simp (disch := (first | (simp only [yD2, beq_self_eq_true, Nat.reduceLT, Nat.reduceAdd]; done) | ((fail_if_success (apply Bool.eq_iff_iff.2)); first | omega | (simp only [yD2, beq_self_eq_true, Nat.reduceLT, Nat.reduceAdd] <;> omega)) | fail)) only [↓yS, yT, ↓reduceIte, Nat.reduceEqDiff, Nat.reduceAdd, Nat.reduceMul, reduceCtorEq, Int.reduceToNat, g38]; refine yC (k _ _ ?_); clear k K) | ((first | refine zU ?_ | refine zV ?_ | refine zW ?_); intro A B C D a b c d; simp only [↓yG, Nat.reduceEqDiff, ↓reduceIte, g38]; (first | refine zX (a ?_) | refine zY (b ?_) | refine zZ (fun hc => c ?_) (fun hc => d ?_)) <;> clear a b c d A B C D <;> try simp only [yL] at hc) | (refine yA ?_; intro A a; simp only [↓yG, Nat.reduceEqDiff, ↓reduceIte, g38]; refine yB (a ?_); clear a A) | (refine yD ?_; simp only [gresults, ↓yG, Nat.reduceEqDiff, ↓reduceIte, Option.bind_some, gld_1, gld_n, g38]; refine ⟨_, rfl, ?_⟩; simp only [gone]))
    refine hPost _ _ ⟨?_, Same.down hw hS⟩
    rw [Par.row, hst]
end Go.Gh
