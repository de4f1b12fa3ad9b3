/-
  The journal, walked: Free, Next, Damaged, cut, SameRecords.
-/
import Derived.Test.YtbficpmoppailaaJnW8
namespace Go.Gh
set_option linter.unusedSimpArgs false
set_option linter.unusedVariables false
set_option maxHeartbeats 4000000
open Go.RowKit
set_option maxRecDepth 4000

section
variable {H H' : GHeap} {i j gc k : Nat} {m : JM} {l : JL}
theorem free_ok (h : JAt H i j gc k m l) (hfin : l.fin < 70368744177664) : ∃ r H', gev G 15 [ptr k] H = some (r, H') ∧ (r = .int .i64 (freeJ m l) ∧ H' = H) := by
  refine gev_GW (f := 15) rfl fun Post hPost => ?_
  have hL' : H.mine k = some (logCells (ptr i) l, 0) := h.log
  have hrd := fun o => mine_rd (o := o) hL'
  have hbig := h.mem.big
  have hsz : m.size = m.data.length / 2 := rfl
  simp only [frameOf, Nat.reduceAdd]
  repeat' (first | refine zn ?_ | refine zK rfl ?_ | refine zP rfl ?_ | ((first | refine zm ?_ | skip); intro _; intros; simp (disch := first | exact zd | fail) only [↓yS, yT, gresults, gone, ↓reduceIte, Nat.reduceEqDiff, Nat.reduceAdd, Nat.reduceMul, reduceCtorEq, Int.reduceToNat, g15, ptr, hrd, logCells]; first | (rename_i K k; (first | refine yC (k _ _ ?_) | refine zg (k _ ?_)); clear k K) | (rename_i A B C D a b c d; (first | refine zx (a ?_) | refine zy (b ?_) | refine zz (fun hc => c ?_) (fun hc => d ?_) | refine zv (b ?_) | refine zw (a ?_)) <;> clear a b c d A B C D <;> try simp only [yL] at hc)) | refine zA ?_ | refine zB ?_ | refine zF ?_)
  refine Gw_s fun K' hK' => G1_callM (by simp only [gtarget, ↓GArg.ev, ↓evs, ↓Tr.get_set, Nat.reduceEqDiff, if_true, if_false, ↓reduceIte, Option.map_some, ptr]; rfl) (size_up h.mem) fun r3 H3 hq => hK' _ _ ?_
  obtain ⟨rfl, rfl⟩ := hq
  rw [updown]
  repeat' (first | refine zn ?_ | refine zK rfl ?_ | refine zP rfl ?_ | ((first | refine zm ?_ | skip); intro _; intros; simp (disch := first | exact zd | fail) only [↓yS, yT, gresults, gone, ↓reduceIte, Nat.reduceEqDiff, Nat.reduceAdd, Nat.reduceMul, reduceCtorEq, Int.reduceToNat, g15, ptr, hrd, logCells]; first | (rename_i K k; (first | refine yC (k _ _ ?_) | refine zg (k _ ?_)); clear k K) | (rename_i A B C D a b c d; (first | refine zx (a ?_) | refine zy (b ?_) | refine zz (fun hc => c ?_) (fun hc => d ?_) | refine zv (b ?_) | refine zw (a ?_)) <;> clear a b c d A B C D <;> try simp only [yL] at hc)) | refine zA ?_ | refine zB ?_ | refine zF ?_)
  refine hPost _ _ ⟨?_, rfl⟩
  rw [freeJ]; congr 2; omega
theorem next_ok (hL : LogAt H k i l) : ∃ r H', gev G 18 [ptr k] H = some (r, H') ∧ (r = .int .i64 (l.next : Int) ∧ H' = H) := by
  refine gev_GW (f := 18) rfl fun Post hPost => ?_
  have hL' : H.mine k = some (logCells (ptr i) l, 0) := hL
  have hrd := fun o => mine_rd (o := o) hL'
  simp only [frameOf, Nat.reduceAdd]
  repeat' (first | refine zn ?_ | refine zK rfl ?_ | refine zP rfl ?_ | ((first | refine zm ?_ | skip); intro _; intros; simp (disch := first | exact zd | fail) only [↓yS, yT, gresults, gone, ↓reduceIte, Nat.reduceEqDiff, Nat.reduceAdd, Nat.reduceMul, reduceCtorEq, Int.reduceToNat, g18, ptr, hrd, logCells]; first | (rename_i K k; (first | refine yC (k _ _ ?_) | refine zg (k _ ?_)); clear k K) | (rename_i A B C D a b c d; (first | refine zx (a ?_) | refine zy (b ?_) | refine zz (fun hc => c ?_) (fun hc => d ?_) | refine zv (b ?_) | refine zw (a ?_)) <;> clear a b c d A B C D <;> try simp only [yL] at hc)) | refine zA ?_ | refine zB ?_ | refine zF ?_)
  exact hPost _ _ ⟨rfl, rfl⟩
theorem damaged_ok (hL : LogAt H k i l) : ∃ r H', gev G 19 [ptr k] H = some (r, H') ∧ (r = .bool l.damaged ∧ H' = H) := by
  refine gev_GW (f := 19) rfl fun Post hPost => ?_
  have hL' : H.mine k = some (logCells (ptr i) l, 0) := hL
  have hrd := fun o => mine_rd (o := o) hL'
  simp only [frameOf, Nat.reduceAdd]
  repeat' (first | refine zn ?_ | refine zK rfl ?_ | refine zP rfl ?_ | ((first | refine zm ?_ | skip); intro _; intros; simp (disch := first | exact zd | fail) only [↓yS, yT, gresults, gone, ↓reduceIte, Nat.reduceEqDiff, Nat.reduceAdd, Nat.reduceMul, reduceCtorEq, Int.reduceToNat, g19, ptr, hrd, logCells]; first | (rename_i K k; (first | refine yC (k _ _ ?_) | refine zg (k _ ?_)); clear k K) | (rename_i A B C D a b c d; (first | refine zx (a ?_) | refine zy (b ?_) | refine zz (fun hc => c ?_) (fun hc => d ?_) | refine zv (b ?_) | refine zw (a ?_)) <;> clear a b c d A B C D <;> try simp only [yL] at hc)) | refine zA ?_ | refine zB ?_ | refine zF ?_)
  exact hPost _ _ ⟨rfl, rfl⟩
theorem gslice_ids {v v' : Value} {s : Nat} {lo hi : Option Value} (h : gslice (.sl s) H v lo hi none = some v') : ∀ a ∈ idOf v', a ∈ idOf v := by
  intro a ha
  unfold gslice at h
  split at h
  · rename_i e; cases e
  · simp only [Option.map_eq_some_iff] at h
    obtain ⟨_, _, rfl⟩ := h; exact ha
  · split at h
    · split at h
      · simp only [Option.map_eq_some_iff] at h
        obtain ⟨_, _, rfl⟩ := h; exact ha
      · cases h
    · cases h
  · rename_i e; cases e
  · cases h
theorem cut_ok {v : Value} {p : List UInt8} (hv : RB H v p) (hl : p.length ≤ 9223372036854775807) : ∃ r H', gev G 13 [v] H = some (r, H') ∧ (RB H r (p.take 60) ∧ (∀ a ∈ idOf r, a ∈ idOf v) ∧ H' = H) := by
  refine gev_GW (f := 13) rfl fun Post hPost => ?_
  have hsl := hv.isSl
  obtain ⟨v', e1, e2⟩ := hv.pre (k := .i64) (b := min (p.length : Int) 60) (by omega) (by omega)
  have e3 : p.take (min (p.length : Int) 60).toNat = p.take 60 := by
    by_cases h : p.length ≤ 60
    · rw [show (min (p.length : Int) 60).toNat = p.length by omega, List.take_length, List.take_of_length_le h]
    · rw [show (min (p.length : Int) 60).toNat = 60 by omega]
  rw [e3] at e2
  simp only [frameOf, Nat.reduceAdd]
  repeat' (first | refine zn ?_ | refine zK rfl ?_ | refine zP rfl ?_ | ((first | refine zm ?_ | skip); intro _; intros; simp (disch := first | exact zd | fail) only [↓yS, yT, gresults, gone, ↓reduceIte, Nat.reduceEqDiff, Nat.reduceAdd, Nat.reduceMul, reduceCtorEq, Int.reduceToNat, g13, hsl.len, e1]; first | (rename_i K k; (first | refine yC (k _ _ ?_) | refine zg (k _ ?_)); clear k K) | (rename_i A B C D a b c d; (first | refine zx (a ?_) | refine zy (b ?_) | refine zz (fun hc => c ?_) (fun hc => d ?_) | refine zv (b ?_) | refine zw (a ?_)) <;> clear a b c d A B C D <;> try simp only [yL] at hc)) | refine zA ?_ | refine zB ?_ | refine zF ?_)
  exact hPost _ _ ⟨e2, gslice_ids e1, rfl⟩
end
instance : Inhabited RP := ⟨(default, .slice none 0 0)⟩
deriving instance DecidableEq for JR
/-- a table of records, to be read -/
structure RecR (H : GHeap) (v : Value) (L : List RP) : Prop where
  rd : GRd H 3 v L.length (L.flatMap recC)
  data : ∀ x ∈ L, RB H x.2 x.1.data
theorem RecT.r {H0 H : GHeap} {v : Value} {L : List RP} (h : RecT H0 H v L) : RecR H v L :=
  ⟨h.own.rd, fun x hx => let ⟨_, _, _, _, e, h1, _⟩ := h.data x hx; h1⟩
theorem RecR.at_ {H : GHeap} {v : Value} {L : List RP} (h : RecR H v L) {j : Nat} (hj : j < L.length) :
    H.rd (blk v) (ofs v + j * 3) = some (.int .i64 (L[j]!.1.num : Int)) ∧ H.rd (blk v) (ofs v + j * 3 + 1) = some (.bool L[j]!.1.state) ∧ H.rd (blk v) (ofs v + j * 3 + 2) = some L[j]!.2 ∧ gconv .ofBytes H L[j]!.2 = some (.string (strB L[j]!.1.data), none) := by
  have h1 := fun c (hc : c < 3) => h.rd.row recC_len hj hc
  have h0 := h1 0 (by omega)
  refine ⟨h0, h1 1 (by omega), h1 2 (by omega), ?_⟩
  exact (h.data _ (by rw [getElem!_pos L j hj]; exact List.getElem_mem hj)).str
def sameR (A B : List RP) : Bool := decide (A.map Prod.fst = B.map Prod.fst)
theorem sameR_true {A B : List RP} (h : A.map Prod.fst = B.map Prod.fst) : sameR A B = true := decide_eq_true h
theorem same_ok {H : GHeap} {a b : Value} {A B : List RP} (ha : RecR H a A) (hb : RecR H b B) (hl : A.length < 70368744177664) :
    ∃ r H', gev G 17 [a, b] H = some (r, H') ∧ (r = .bool (sameR A B) ∧ H' = H) := by
  unfold sameR
  refine gev_GW (f := 17) rfl fun Post hPost => ?_
  have hsa := ha.rd.isSl
  have hsb := hb.rd.isSl
  simp only [frameOf, Nat.reduceAdd]
  repeat' (first | refine zn ?_ | refine zK rfl ?_ | refine zP rfl ?_ | ((first | refine zm ?_ | skip); intro _; intros; simp (disch := first | exact zd | fail) only [↓yS, yT, gresults, gone, ↓reduceIte, Nat.reduceEqDiff, Nat.reduceAdd, Nat.reduceMul, reduceCtorEq, Int.reduceToNat, g17, hsa.len, hsb.len]; first | (rename_i K k; (first | refine yC (k _ _ ?_) | refine zg (k _ ?_)); clear k K) | (rename_i A B C D a b c d; (first | refine zx (a ?_) | refine zy (b ?_) | refine zz (fun hc => c ?_) (fun hc => d ?_) | refine zv (b ?_) | refine zw (a ?_)) <;> clear a b c d A B C D <;> try simp only [yL] at hc)) | refine zA ?_ | refine zB ?_ | refine zF ?_)
  case refine_1 =>
    refine hPost _ _ ⟨?_, rfl⟩
    rw [decide_eq_false]
    intro e
    have := congrArg List.length e
    simp only [List.length_map] at this
    omega
  case refine_2 =>
  have hlen : A.length = B.length := by omega
  have hne : ∀ j, j < A.length → A[j]!.1 ≠ B[j]!.1 → decide (A.map Prod.fst = B.map Prod.fst) = false := fun j hj hn => by
    rw [decide_eq_false]
    intro e
    apply hn
    have := congrArg (fun l => l[j]?) e
    simp only [List.getElem?_map, gget hj, gget (show j < B.length by omega), Option.map_some, Option.some.injEq] at this
    exact this
  refine GW_loop (fun q fr H1 => ∃ (j : Nat), j ≤ A.length ∧ q = A.length - j ∧ fr.get 0 = some (a) ∧ fr.get 1 = some (b) ∧ fr.get 12 = some (.int .i64 A.length) ∧ fr.get 13 = some (.int .i64 j) ∧ H1 = H ∧ (A.take j).map Prod.fst = (B.take j).map Prod.fst) ?_ A.length ?_
  case refine_2 =>
    refine ⟨0, by omega, by omega, ?_⟩
    simp only [↓yG, Nat.reduceEqDiff, ↓reduceIte, Int.natCast_add, Int.cast_ofNat_Int, Int.natCast_zero, true_and, and_true, Option.some.injEq, Value.int.injEq]
    simp
  rintro q fr H1 ⟨j, hj, rfl, f0, f1, f12, f13, rfl, heq⟩ J hJ
  by_cases hjl : j < A.length
  · obtain ⟨a0, a1, a2, a3⟩ := ha.at_ hjl
    obtain ⟨b0, b1, b2, b3⟩ := hb.at_ (j := j) (by omega)
    have hst : gbin .neq (some .bool) (.bool A[j]!.1.state) (.bool B[j]!.1.state) = some (.bool (decide (¬ A[j]!.1.state = B[j]!.1.state))) := by
      cases A[j]!.1.state <;> cases B[j]!.1.state <;> rfl
    repeat' (first | (exfalso; omega) | refine zn ?_ | refine zK rfl ?_ | refine zP rfl ?_ | ((first | refine zm ?_ | skip); intro _; intros; simp (disch := first | exact zd | fail) only [↓yS, yT, gresults, gone, ↓reduceIte, Nat.reduceEqDiff, Nat.reduceAdd, Nat.reduceMul, reduceCtorEq, Int.reduceToNat, g17, f0, f1, f12, f13, hsa.len, hsb.len, hsa.ia, hsb.ia, a0, a1, a2, a3, b0, b1, b2, b3, hst]; first | (rename_i K k; (first | refine yC (k _ _ ?_) | refine zg (k _ ?_)); clear k K) | (rename_i A B C D a b c d; (first | refine zx (a ?_) | refine zy (b ?_) | refine zz (fun hc => c ?_) (fun hc => d ?_) | refine zv (b ?_) | refine zw (a ?_)) <;> clear a b c d A B C D <;> try simp only [yL] at hc)) | refine zA ?_ | refine zB ?_ | refine zF ?_)
    case pos.refine_1.refine_1 => exact hPost _ _ ⟨by rw [hne j hjl fun e => hc (by rw [e])], rfl⟩
    case pos.refine_1.refine_2.refine_1 => exact hPost _ _ ⟨by rw [hne j hjl fun e => hc (by rw [e])], rfl⟩
    case pos.refine_1.refine_2.refine_2.refine_1 => exact hPost _ _ ⟨by rw [hne j hjl fun e => hc (by rw [e])], rfl⟩
    case pos.refine_1.refine_2.refine_2.refine_2 h1 h2 h3 =>
    refine hJ _ _ ⟨A.length - (j + 1), by omega, j + 1, by omega, rfl, ?_⟩
    have hab : A[j]!.1 = B[j]!.1 := by
      have : A[j]!.1.num = B[j]!.1.num := by omega
      cases ha' : A[j]!.1; cases hb' : B[j]!.1
      rw [ha', hb'] at this h3 hc
      simp only at this h3 hc
      rw [this, h3, hc]
    have he : (A.take (j + 1)).map Prod.fst = (B.take (j + 1)).map Prod.fst := by
      rw [List.take_succ_eq_append_getElem hjl, List.take_succ_eq_append_getElem (show j < B.length by omega), List.map_append, List.map_append, heq, ← getElem!_pos A j hjl, ← getElem!_pos B j (by omega)]
      simp only [List.map_cons, List.map_nil, hab]
    simp only [↓yG, Nat.reduceEqDiff, ↓reduceIte, Int.natCast_add, Int.cast_ofNat_Int, Int.natCast_zero, true_and, and_true, Option.some.injEq, Value.int.injEq, f0, f1, f12]
    exact he
  · repeat' (first | (exfalso; omega) | refine zn ?_ | refine zK rfl ?_ | refine zP rfl ?_ | ((first | refine zm ?_ | skip); intro _; intros; simp (disch := first | exact zd | fail) only [↓yS, yT, gresults, gone, ↓reduceIte, Nat.reduceEqDiff, Nat.reduceAdd, Nat.reduceMul, reduceCtorEq, Int.reduceToNat, g17, f0, f1, f12, f13]; first | (rename_i K k; (first | refine yC (k _ _ ?_) | refine zg (k _ ?_)); clear k K) | (rename_i A B C D a b c d; (first | refine zx (a ?_) | refine zy (b ?_) | refine zz (fun hc => c ?_) (fun hc => d ?_) | refine zv (b ?_) | refine zw (a ?_)) <;> clear a b c d A B C D <;> try simp only [yL] at hc)) | refine zA ?_ | refine zB ?_ | refine zF ?_)
    refine hPost _ _ ⟨?_, rfl⟩
    rw [List.take_of_length_le (by omega), List.take_of_length_le (by omega)] at heq
    rw [decide_eq_true heq]
end Go.Gh
