/-
  slices, event and document, walked: copies.
-/
import Derived.Test.YtjjcgaompnjbdaaDoorTrWA
import Derived.Test.YtjjcgaompnjbdaaDoorSyK3
namespace Go.Gh
set_option linter.unusedSimpArgs false
set_option linter.unusedVariables false
set_option maxHeartbeats 4000000
open Go.RowKit
set_option maxRecDepth 4000

theorem rows_set {α : Type} [Inhabited α] {f : α → List Value} {s : Nat} (hf : ∀ x, (f x).length = s) : ∀ (l : List α) (k : Nat) (x : α), k < l.length → (l.flatMap f).take (k * s) ++ f x ++ (l.flatMap f).drop (k * s + s) = (l.set k x).flatMap f
  | [], k, x, h => by simp at h
  | y :: l, 0, x, _ => by
    rw [Nat.zero_mul, List.take_zero, List.nil_append, Nat.zero_add, List.flatMap_cons, List.drop_left' (hf y)]
    rfl
  | y :: l, k + 1, x, h => by
    have ih := rows_set hf l k x (by simpa using h)
    have e : (k + 1) * s = (f y).length + k * s := by rw [hf, Nat.add_mul]; omega
    rw [List.set_cons_succ, List.flatMap_cons, List.flatMap_cons, ← ih, e, List.take_length_add_append, Nat.add_assoc, List.drop_length_add_append]
    simp only [List.append_assoc]
theorem OS.argN {s n : Nat} {H0 H : GHeap} {v : Value} {xs : List Value} (h : OS s s H0 H v n xs) (hs : s ≠ 257 ∧ s ≠ 258) : GArg1 H s v n xs := OwnG.arg h.same.wf h.own (.inr (by simp [usz, hs.1, hs.2]))
theorem OS.putL {s u n i : Nat} {H H1 H2 : GHeap} {v : Value} {xs : List Value} (h : OS s u H1 H2 v n xs) (hs : Same H H1) (h1 : H.len ≤ i) (h2 : i < H1.len) (o : GObj) : OS s u H (H2.put i o) v n xs :=
  (h.weaken hs).but (S := fun k => k = i) ((But.refl (S := fun k => k = i) h.same.wf).put rfl (Nat.lt_of_lt_of_le h2 h.same.len) o) (fun k hk e => by omega) (fun a ha e => by have := (h.ids ha).1; omega)
theorem TO.weaken {H H1 H2 : GHeap} {v : Value} {L : List VR'} (h : TO H1 H2 v L) (hs : Same H H1) : TO H H2 v L := ⟨h.own.weaken hs, fun x hx => (h.rows x hx).weaken hs⟩
theorem TO.putL {i : Nat} {H H1 H2 : GHeap} {v : Value} {L : List VR'} (h : TO H1 H2 v L) (hs : Same H H1) (h1 : H.len ≤ i) (h2 : i < H1.len) (o : GObj) : TO H (H2.put i o) v L := ⟨h.own.putL hs h1 h2 o, fun x hx => (h.rows x hx).putL hs h1 h2 o⟩
/-- a put into an object of another unit -/
theorem OS.putU {s u n i u' : Nat} {H0 H : GHeap} {v : Value} {xs c c' : List Value} (h : OS s u H0 H v n xs) (hm : H.mine i = some (c, u')) (hi : H0.len ≤ i) (hu : u ≠ u') : OS s u H0 (H.put i (.cells c' u' true)) v n xs :=
  h.but (S := fun k => k = i) ((But.refl (S := fun k => k = i) h.same.wf).put rfl (mine_lt h.same.wf hm) _) (fun k hk e => by omega) (fun a ha e => by
    have := (h.ids ha).2.2
    rw [e, hm] at this
    simp only [Option.some.injEq, Prod.mk.injEq] at this
    exact hu this.2.symm)
theorem TO.putU {i u' : Nat} {H0 H : GHeap} {v : Value} {L : List VR'} {c c' : List Value} (h : TO H0 H v L) (hm : H.mine i = some (c, u')) (hi : H0.len ≤ i) (h1 : 1 ≠ u') (h5 : 5 ≠ u') : TO H0 (H.put i (.cells c' u' true)) v L := ⟨h.own.putU hm hi h1, fun x hx => OS.putU (h.rows x hx) hm hi h5⟩
theorem cloneG_ok {H : GHeap} (hw : H.wf) {v : Value} {l : List Rg} (hl : GArg1 H 7 v l.length (l.flatMap rgC)) (hll : l.length ≤ 1048576) :
    ∃ r H', gev G 22 [v] H = some (r, H') ∧ OS 7 7 H H' r l.length (l.flatMap rgC) := by
  refine gev_GW (f := 22) rfl fun Post hPost => ?_
  have hlim := hw.1
  simp only [frameOf, Nat.reduceAdd]
  obtain ⟨a, gc, e, hgc, hnil, hu⟩ := hl.sl
  cases a with
  | none =>
    have hl0 : l = [] := List.eq_nil_of_length_eq_zero (Classical.byContradiction fun hn => nil_of hl e hn)
    subst hl0
    have hg0 : gc = 0 := by
      rcases hgc with h | ⟨_, h⟩
      · exact h
      · exact absurd rfl h
    subst hg0
    subst e
    have heq : gbin .eql (some .sl) (.slice none 0 0) (.slice none 0 0) = some (.bool true) := by simp [gbin, geq, geqIn]
    repeat' (first | refine zn ?_ | refine zK rfl ?_ | refine zP rfl ?_ | ((first | refine zm ?_ | skip); intro _; intros; simp (disch := first | exact zd | fail) only [↓yS, yT, gresults, gone, ↓reduceIte, Nat.reduceEqDiff, Nat.reduceAdd, Nat.reduceMul, reduceCtorEq, Int.reduceToNat, g22, heq]; first | (rename_i K k; (first | refine yC (k _ _ ?_) | refine zg (k _ ?_)); clear k K) | (rename_i A B C D a b c d; (first | refine zx (a ?_) | refine zy (b ?_) | refine zz (fun hc => c ?_) (fun hc => d ?_) | refine zv (b ?_) | refine zw (a ?_)) <;> clear a b c d A B C D <;> try simp only [yL] at hc)) | refine zA ?_ | refine zB ?_ | refine zF ?_)
    exact hPost _ _ (OS.nil (Same.refl hw))
  | some p =>
    have heq : gbin .eql (some .sl) v (.slice none 0 0) = some (.bool false) := by rw [e]; simp [gbin, geq, geqIn]
    repeat' (first | refine zn ?_ | refine zK rfl ?_ | refine zP rfl ?_ | ((first | refine zm ?_ | skip); intro _; intros; simp (disch := first | exact zd | fail) only [↓yS, yT, gresults, gone, ↓reduceIte, Nat.reduceEqDiff, Nat.reduceAdd, Nat.reduceMul, reduceCtorEq, Int.reduceToNat, g22, heq]; first | (rename_i K k; (first | refine yC (k _ _ ?_) | refine zg (k _ ?_)); clear k K) | (rename_i A B C D a b c d; (first | refine zx (a ?_) | refine zy (b ?_) | refine zz (fun hc => c ?_) (fun hc => d ?_) | refine zv (b ?_) | refine zw (a ?_)) <;> clear a b c d A B C D <;> try simp only [yL] at hc)) | refine zA ?_ | refine zB ?_ | refine zF ?_)
    have hO0 : OS 7 7 H (H.add (some (.cells [] 7 true))) (.slice (some ⟨H.len, 0, none⟩) 0 1) 0 [] := OS.made' (Same.refl hw) rfl
    refine Gw_s fun K' hK' => ?_
    simp (disch := first | exact zd | fail) only [↓yS, yT, ↓reduceIte, Nat.reduceEqDiff, Nat.reduceAdd, Nat.reduceMul, reduceCtorEq, Int.reduceToNat]
    obtain ⟨v', H', e, hO, hB⟩ := hO0.appN (by decide) (by decide) (GArg1.same hl hw hO0.same) (b := 56) (by omega) (by omega)
    refine G1_eq e (hK' _ _ ?_)
    clear hK' K' e
    repeat' (first | refine zn ?_ | refine zK rfl ?_ | refine zP rfl ?_ | ((first | refine zm ?_ | skip); intro _; intros; simp (disch := first | exact zd | fail) only [↓yS, yT, gresults, gone, ↓reduceIte, Nat.reduceEqDiff, Nat.reduceAdd, Nat.reduceMul, reduceCtorEq, Int.reduceToNat, g22]; first | (rename_i K k; (first | refine yC (k _ _ ?_) | refine zg (k _ ?_)); clear k K) | (rename_i A B C D a b c d; (first | refine zx (a ?_) | refine zy (b ?_) | refine zz (fun hc => c ?_) (fun hc => d ?_) | refine zv (b ?_) | refine zw (a ?_)) <;> clear a b c d A B C D <;> try simp only [yL] at hc)) | refine zA ?_ | refine zB ?_ | refine zF ?_)
    rw [Nat.zero_add, List.nil_append] at hO
    exact hPost _ _ hO
theorem cloneC_ok {H : GHeap} (hw : H.wf) {v : Value} {l : List Cm} (hl : GArg1 H 8 v l.length (l.flatMap cmC)) (hll : l.length ≤ 1048576) :
    ∃ r H', gev G 23 [v] H = some (r, H') ∧ OS 8 8 H H' r l.length (l.flatMap cmC) := by
  refine gev_GW (f := 23) rfl fun Post hPost => ?_
  have hlim := hw.1
  simp only [frameOf, Nat.reduceAdd]
  obtain ⟨a, gc, e, hgc, hnil, hu⟩ := hl.sl
  cases a with
  | none =>
    have hl0 : l = [] := List.eq_nil_of_length_eq_zero (Classical.byContradiction fun hn => nil_of hl e hn)
    subst hl0
    have hg0 : gc = 0 := by
      rcases hgc with h | ⟨_, h⟩
      · exact h
      · exact absurd rfl h
    subst hg0
    subst e
    have heq : gbin .eql (some .sl) (.slice none 0 0) (.slice none 0 0) = some (.bool true) := by simp [gbin, geq, geqIn]
    repeat' (first | refine zn ?_ | refine zK rfl ?_ | refine zP rfl ?_ | ((first | refine zm ?_ | skip); intro _; intros; simp (disch := first | exact zd | fail) only [↓yS, yT, gresults, gone, ↓reduceIte, Nat.reduceEqDiff, Nat.reduceAdd, Nat.reduceMul, reduceCtorEq, Int.reduceToNat, g23, heq]; first | (rename_i K k; (first | refine yC (k _ _ ?_) | refine zg (k _ ?_)); clear k K) | (rename_i A B C D a b c d; (first | refine zx (a ?_) | refine zy (b ?_) | refine zz (fun hc => c ?_) (fun hc => d ?_) | refine zv (b ?_) | refine zw (a ?_)) <;> clear a b c d A B C D <;> try simp only [yL] at hc)) | refine zA ?_ | refine zB ?_ | refine zF ?_)
    exact hPost _ _ (OS.nil (Same.refl hw))
  | some p =>
    have heq : gbin .eql (some .sl) v (.slice none 0 0) = some (.bool false) := by rw [e]; simp [gbin, geq, geqIn]
    repeat' (first | refine zn ?_ | refine zK rfl ?_ | refine zP rfl ?_ | ((first | refine zm ?_ | skip); intro _; intros; simp (disch := first | exact zd | fail) only [↓yS, yT, gresults, gone, ↓reduceIte, Nat.reduceEqDiff, Nat.reduceAdd, Nat.reduceMul, reduceCtorEq, Int.reduceToNat, g23, heq]; first | (rename_i K k; (first | refine yC (k _ _ ?_) | refine zg (k _ ?_)); clear k K) | (rename_i A B C D a b c d; (first | refine zx (a ?_) | refine zy (b ?_) | refine zz (fun hc => c ?_) (fun hc => d ?_) | refine zv (b ?_) | refine zw (a ?_)) <;> clear a b c d A B C D <;> try simp only [yL] at hc)) | refine zA ?_ | refine zB ?_ | refine zF ?_)
    have hO0 : OS 8 8 H (H.add (some (.cells [] 8 true))) (.slice (some ⟨H.len, 0, none⟩) 0 1) 0 [] := OS.made' (Same.refl hw) rfl
    refine Gw_s fun K' hK' => ?_
    simp (disch := first | exact zd | fail) only [↓yS, yT, ↓reduceIte, Nat.reduceEqDiff, Nat.reduceAdd, Nat.reduceMul, reduceCtorEq, Int.reduceToNat]
    obtain ⟨v', H', e, hO, hB⟩ := hO0.appN (by decide) (by decide) (GArg1.same hl hw hO0.same) (b := 72) (by omega) (by omega)
    refine G1_eq e (hK' _ _ ?_)
    clear hK' K' e
    repeat' (first | refine zn ?_ | refine zK rfl ?_ | refine zP rfl ?_ | ((first | refine zm ?_ | skip); intro _; intros; simp (disch := first | exact zd | fail) only [↓yS, yT, gresults, gone, ↓reduceIte, Nat.reduceEqDiff, Nat.reduceAdd, Nat.reduceMul, reduceCtorEq, Int.reduceToNat, g23]; first | (rename_i K k; (first | refine yC (k _ _ ?_) | refine zg (k _ ?_)); clear k K) | (rename_i A B C D a b c d; (first | refine zx (a ?_) | refine zy (b ?_) | refine zz (fun hc => c ?_) (fun hc => d ?_) | refine zv (b ?_) | refine zw (a ?_)) <;> clear a b c d A B C D <;> try simp only [yL] at hc)) | refine zA ?_ | refine zB ?_ | refine zF ?_)
    rw [Nat.zero_add, List.nil_append] at hO
    exact hPost _ _ hO
theorem cloneE_ok {H : GHeap} (hw : H.wf) {v : Value} {l : List Ev} (hl : GArg1 H 7 v l.length (l.flatMap evC)) (hll : l.length ≤ 1048576) :
    ∃ r H', gev G 24 [v] H = some (r, H') ∧ OS 7 7 H H' r l.length (l.flatMap evC) := by
  refine gev_GW (f := 24) rfl fun Post hPost => ?_
  have hlim := hw.1
  simp only [frameOf, Nat.reduceAdd]
  obtain ⟨a, gc, e, hgc, hnil, hu⟩ := hl.sl
  cases a with
  | none =>
    have hl0 : l = [] := List.eq_nil_of_length_eq_zero (Classical.byContradiction fun hn => nil_of hl e hn)
    subst hl0
    have hg0 : gc = 0 := by
      rcases hgc with h | ⟨_, h⟩
      · exact h
      · exact absurd rfl h
    subst hg0
    subst e
    have heq : gbin .eql (some .sl) (.slice none 0 0) (.slice none 0 0) = some (.bool true) := by simp [gbin, geq, geqIn]
    repeat' (first | refine zn ?_ | refine zK rfl ?_ | refine zP rfl ?_ | ((first | refine zm ?_ | skip); intro _; intros; simp (disch := first | exact zd | fail) only [↓yS, yT, gresults, gone, ↓reduceIte, Nat.reduceEqDiff, Nat.reduceAdd, Nat.reduceMul, reduceCtorEq, Int.reduceToNat, g24, heq]; first | (rename_i K k; (first | refine yC (k _ _ ?_) | refine zg (k _ ?_)); clear k K) | (rename_i A B C D a b c d; (first | refine zx (a ?_) | refine zy (b ?_) | refine zz (fun hc => c ?_) (fun hc => d ?_) | refine zv (b ?_) | refine zw (a ?_)) <;> clear a b c d A B C D <;> try simp only [yL] at hc)) | refine zA ?_ | refine zB ?_ | refine zF ?_)
    exact hPost _ _ (OS.nil (Same.refl hw))
  | some p =>
    have heq : gbin .eql (some .sl) v (.slice none 0 0) = some (.bool false) := by rw [e]; simp [gbin, geq, geqIn]
    repeat' (first | refine zn ?_ | refine zK rfl ?_ | refine zP rfl ?_ | ((first | refine zm ?_ | skip); intro _; intros; simp (disch := first | exact zd | fail) only [↓yS, yT, gresults, gone, ↓reduceIte, Nat.reduceEqDiff, Nat.reduceAdd, Nat.reduceMul, reduceCtorEq, Int.reduceToNat, g24, heq]; first | (rename_i K k; (first | refine yC (k _ _ ?_) | refine zg (k _ ?_)); clear k K) | (rename_i A B C D a b c d; (first | refine zx (a ?_) | refine zy (b ?_) | refine zz (fun hc => c ?_) (fun hc => d ?_) | refine zv (b ?_) | refine zw (a ?_)) <;> clear a b c d A B C D <;> try simp only [yL] at hc)) | refine zA ?_ | refine zB ?_ | refine zF ?_)
    have hO0 : OS 7 7 H (H.add (some (.cells [] 7 true))) (.slice (some ⟨H.len, 0, none⟩) 0 1) 0 [] := OS.made' (Same.refl hw) rfl
    refine Gw_s fun K' hK' => ?_
    simp (disch := first | exact zd | fail) only [↓yS, yT, ↓reduceIte, Nat.reduceEqDiff, Nat.reduceAdd, Nat.reduceMul, reduceCtorEq, Int.reduceToNat]
    obtain ⟨v', H', e, hO, hB⟩ := hO0.appN (by decide) (by decide) (GArg1.same hl hw hO0.same) (b := 88) (by omega) (by omega)
    refine G1_eq e (hK' _ _ ?_)
    clear hK' K' e
    repeat' (first | refine zn ?_ | refine zK rfl ?_ | refine zP rfl ?_ | ((first | refine zm ?_ | skip); intro _; intros; simp (disch := first | exact zd | fail) only [↓yS, yT, gresults, gone, ↓reduceIte, Nat.reduceEqDiff, Nat.reduceAdd, Nat.reduceMul, reduceCtorEq, Int.reduceToNat, g24]; first | (rename_i K k; (first | refine yC (k _ _ ?_) | refine zg (k _ ?_)); clear k K) | (rename_i A B C D a b c d; (first | refine zx (a ?_) | refine zy (b ?_) | refine zz (fun hc => c ?_) (fun hc => d ?_) | refine zv (b ?_) | refine zw (a ?_)) <;> clear a b c d A B C D <;> try simp only [yL] at hc)) | refine zA ?_ | refine zB ?_ | refine zF ?_)
    rw [Nat.zero_add, List.nil_append] at hO
    exact hPost _ _ hO
/-- an event with rows of its own -/
def evWith (e : Ev) (v : Value) (L : List VR') : Ev := { e with v := v, L := L }
theorem evWith_C (e : Ev) (v : Value) (L : List VR') : evC (evWith e v L) = (evC e).set 6 v := rfl
theorem cloneV_ok {H : GHeap} (hw : H.wf) {e : Ev} (hT : TR H e.v e.L) (hs : smE e) :
    ∃ r H', gev G 25 [evV e] H = some (r, H') ∧ ∃ v L, r = evV (evWith e v L) ∧ TO H H' v L ∧ L.map (·.2) = e.L.map (·.2) := by
  refine gev_GW (f := 25) rfl fun Post hPost => ?_
  have hlim := hw.1
  have fe := ev_cflat hT.rd.flat
  obtain ⟨hs1, hs2, hs3, hs4, hs5⟩ := hs
  simp only [frameOf, Nat.reduceAdd]
  repeat' (first | refine zn ?_ | refine zK rfl ?_ | refine zP rfl ?_ | ((first | refine zm ?_ | skip); intro _; intros; simp (disch := first | exact zd | fail) only [↓yS, yT, gresults, gone, ↓reduceIte, Nat.reduceEqDiff, Nat.reduceAdd, Nat.reduceMul, reduceCtorEq, Int.reduceToNat, g25, RE, fe]; first | (rename_i K k; (first | refine yC (k _ _ ?_) | refine zg (k _ ?_)); clear k K) | (rename_i A B C D a b c d; (first | refine zx (a ?_) | refine zy (b ?_) | refine zz (fun hc => c ?_) (fun hc => d ?_) | refine zv (b ?_) | refine zw (a ?_)) <;> clear a b c d A B C D <;> try simp only [yL] at hc)) | refine zA ?_ | refine zB ?_ | refine zF ?_)
  have hS1 : Same H ((H.add (some (.cells (evC e) 0 true))).add (some (.cells [.int .i64 0, .int .i64 0, .int .i64 0, .string ⟨#[]⟩, .int .u8 0, .string ⟨#[]⟩, .slice none 0 0] 0 true))) := ((Same.refl hw).add _).add _
  have m0 : ((H.add (some (.cells (evC e) 0 true))).add (some (.cells [.int .i64 0, .int .i64 0, .int .i64 0, .string ⟨#[]⟩, .int .u8 0, .string ⟨#[]⟩, .slice none 0 0] 0 true))).mine H.len = some (evC e, 0) := by
    rw [mine_add_ne (by rw [len_add]; omega), mine_add_eq rfl hw.1]
  have m1 : ((H.add (some (.cells (evC e) 0 true))).add (some (.cells [.int .i64 0, .int .i64 0, .int .i64 0, .string ⟨#[]⟩, .int .u8 0, .string ⟨#[]⟩, .slice none 0 0] 0 true))).mine (H.len + 1) = some ([.int .i64 0, .int .i64 0, .int .i64 0, .string ⟨#[]⟩, .int .u8 0, .string ⟨#[]⟩, .slice none 0 0], 0) := by
    rw [mine_add_eq (by rw [len_add]) (by rw [lim_add]; omega)]
  have hl1 : ((H.add (some (.cells (evC e) 0 true))).add (some (.cells [.int .i64 0, .int .i64 0, .int .i64 0, .string ⟨#[]⟩, .int .u8 0, .string ⟨#[]⟩, .slice none 0 0] 0 true))).len = H.len + 2 := by simp only [len_add]
  generalize (H.add (some (.cells (evC e) 0 true))).add (some (.cells [.int .i64 0, .int .i64 0, .int .i64 0, .string ⟨#[]⟩, .int .u8 0, .string ⟨#[]⟩, .slice none 0 0] 0 true)) = H1 at *
  refine Gw_s fun K' hK' => G1_call (by simp only [gtarget, ↓GArg.ev, ↓evs, ↓Tr.get_set, Nat.reduceEqDiff, if_true, if_false, ↓reduceIte, Option.map_some, RE]; rfl) (clone_ok hS1.wf (hT.later hw hS1) (by omega) (fun x hx => by have := (hs5 x hx).1; omega)) fun v2 H2 hq => hK' _ _ ?_
  obtain ⟨L, hO, hL⟩ := hq
  have hS2 := hO.own.same
  have n0 : H2.mine H.len = some (evC e, 0) := by rw [hS2.mine (by omega)]; exact m0
  have n1 := (hS2.mine (show H.len + 1 < H1.len by omega)).trans m1
  have hf2 := hO.own.flat
  have hl2 := hS2.len
  have hst : gst none H2 (.pointer (some ⟨H.len, 6, none⟩)) v2 = some (H2.put H.len (.cells (evC (evWith e v2 L)) 0 true)) := by
    rw [gst_1, n0, Option.bind_some, gset_ok (by simp [evC]) hf2]; rfl
  have hlim2 := hS2.wf.1
  have gse : ∀ {cs : List Value}, cs.length = 7 → gsetn cs 0 7 (evV (evWith e v2 L)) = some (evC (evWith e v2 L)) := fun h => gsetn_ev h hf2
  have n1' : (H2.put H.len (.cells (evC (evWith e v2 L)) 0 true)).mine (H.len + 1) = _ := (mine_put_ne (by omega)).trans n1
  have hO2 := hO.putL hS1 (Nat.le_refl _) (show H.len < H1.len by omega) (.cells (evC (evWith e v2 L)) 0 true)
  have hO3 := TO.putU (c' := evC (evWith e v2 L)) hO2 n1' (by omega) (by decide) (by decide)
  repeat' (first | refine zn ?_ | refine zK rfl ?_ | refine zP rfl ?_ | ((first | refine zm ?_ | skip); intro _; intros; simp (disch := first | exact zd | fail) only [↓yS, yT, gresults, gone, ↓reduceIte, Nat.reduceEqDiff, Nat.reduceAdd, Nat.reduceMul, reduceCtorEq, Int.reduceToNat, g25, RE, hst, gse, n1']; first | (rename_i K k; (first | refine yC (k _ _ ?_) | refine zg (k _ ?_)); clear k K) | (rename_i A B C D a b c d; (first | refine zx (a ?_) | refine zy (b ?_) | refine zz (fun hc => c ?_) (fun hc => d ?_) | refine zv (b ?_) | refine zw (a ?_)) <;> clear a b c d A B C D <;> try simp only [yL] at hc)) | refine zA ?_ | refine zB ?_ | refine zF ?_)
  exact hPost _ _ ⟨v2, L, rfl, hO3, hL⟩
end Go.Gh
