/-
  lines and its reference, walked: scanners.
-/
import Derived.Test.YtfldcmeecpgpeaaGreatDoorGlW9
namespace Go.Gh
set_option linter.unusedSimpArgs false
set_option linter.unusedVariables false
set_option maxHeartbeats 4000000
open Go.RowKit Go.Lib
set_option maxRecDepth 4000
theorem GRd.but {H H' : GHeap} {s n : Nat} {v : Value} {xs : List Value} {S : Nat → Prop} (h : GRd H s v n xs) (hb : But S H H') (ha : ∀ a ∈ idOf v, ¬ S a) : GRd H' s v n xs := by
  obtain ⟨h1, a, gc, rfl, h3⟩ := h
  refine ⟨h1, a, gc, rfl, fun hn => ?_⟩
  obtain ⟨i, o, cs, rfl, hi, hcs, hx⟩ := h3 hn
  refine ⟨i, o, cs, rfl, Nat.lt_of_lt_of_le hi hb.len, ?_, hx⟩
  unfold GHeap.cs at hcs ⊢
  rw [hb.obj i hi (ha i (by simp [idOf]))]; exact hcs
theorem GArg1.but {H H' : GHeap} {s n : Nat} {v : Value} {xs : List Value} {S : Nat → Prop} (h : GArg1 H s v n xs) (hw : H.wf) (hb : But S H H') (ha : ∀ a ∈ idOf v, ¬ S a) : GArg1 H' s v n xs := by
  refine ⟨h.rd.but hb ha, ?_⟩
  obtain ⟨a, gc, rfl, k0, k1, k2⟩ := h.sl
  refine ⟨a, gc, rfl, k0, k1, fun i o he => ?_⟩
  subst he
  obtain ⟨u, hu, hu2⟩ := k2 i o rfl
  refine ⟨u, ?_, hu2⟩
  unfold GHeap.unit at hu ⊢
  have hi : i < H.len := (hw.2 i).1 (by cases ho : H.obj i <;> simp_all)
  rw [hb.obj i hi (ha i (by simp [idOf]))]; exact hu
theorem GArg1.mono {H H' : GHeap} {s n : Nat} {v : Value} {xs : List Value} (h : GArg1 H s v n xs) (hw : H.wf) {b : Nat} (hb : But (fun j => j = b) H H') (ha : ∀ a ∈ idOf v, a ≠ b) : GArg1 H' s v n xs := h.but hw hb ha
section
variable {call : GCall} {fr : Fr} {H : GHeap} {ks : List Kt} {R : Fr → GHeap → Prop} {hid : List Nat} {r : List (Bool × GOper)} {K : Fr → GHeap → Prop} {op : GOp}
theorem GW_hideN {hide : List GArg} {pre : List GOper} {post : List (Bool × GOper)} (hh : (hidden fr hide).filter (· < H.len) = []) (h : Gw (gdoM call) pre (fun fr' H' => Gp call [] post (GN call ks R) fr' H') fr H) : GW call (.any hide pre post) ks R fr H := by
  obtain ⟨f1, H1, h1, h2⟩ := gws_ok h.ok
  obtain ⟨f2, H2, h3, h4⟩ := h2.ok
  exact ⟨gwp_hide hh (by simpa [ghide] using h1) ⟨f2, H2, by simpa [gback] using h3, h4.ok⟩⟩
theorem Gp_0 (h : ∀ K' : Value → GHeap → Prop, (∀ v H', Gp call hid r K fr H' → K' v H') → G1 (gdo call fr H op) K') : Gp call hid ((false, ⟨none, none, op⟩) :: r) K fr H := by
  have h := (h _ fun _ _ h => h).ok
  cases hr : gdo call fr H op with
  | none => rw [hr] at h; exact h.elim
  | some x =>
    rw [hr] at h
    obtain ⟨f2, H2, h1, h2⟩ := h.ok
    refine ⟨f2, H2, ?_, h2⟩
    simp only [gpost, gwants_none]
    rw [if_neg (by simp), gdoE_yes hr (fun e => by cases e)]
    exact h1
end
abbrev ptr (s : Nat) : Value := .pointer (some ⟨s, 0, none⟩)
def scO (n : Nat) (fv : Value) (k : Nat) (la : Int) : List Value := [.int .i64 n, fv, .int .i64 k, .int .i64 la, .int .i64 0, .int .i64 0, .int .i64 0]
def scE (n : Nat) (fv : Value) (k : Nat) (la : Int) (c : Nat) : List Value := [.int .i64 n, fv, .int .i64 k, .int .i64 la, .int .i64 n, .int .i64 c, .int .i64 4]
def scC (n : Nat) (fv : Value) (k : Nat) (la : Int) : Option Nat → List Value
  | none => scO n fv k la
  | some c => scE n fv k la c
def U3 (H : GHeap) (fv : Value) : Prop := ∀ a ∈ idOf fv, ∃ cs, H.mine a = some (cs, 3)
theorem U3.ne {H : GHeap} {fv : Value} (h : U3 H fv) {s : Nat} {c0 : List Value} {u : Nat} (hm : H.mine s = some (c0, u)) (hu : u ≠ 3) : ∀ a ∈ idOf fv, a ≠ s := fun a ha e => by
  obtain ⟨cs, h1⟩ := h a ha
  rw [e, hm] at h1
  simp only [Option.some.injEq, Prod.mk.injEq] at h1
  exact hu h1.2
theorem U3.but {H H' : GHeap} (hw : H.wf) {fv : Value} (h : U3 H fv) {S : Nat → Prop} (hb : But S H H') (hs : ∀ a cs, H.mine a = some (cs, 3) → ¬ S a) : U3 H' fv := fun a ha => by
  obtain ⟨cs, h1⟩ := h a ha
  exact ⟨cs, by rw [hb.mine (mine_lt hw h1) (hs a cs h1)]; exact h1⟩
theorem U3.same {H H' : GHeap} (hw : H.wf) {fv : Value} (h : U3 H fv) (hb : Same H H') : U3 H' fv := h.but hw (S := fun _ => False) (But.of hb) fun _ _ _ hh => hh
theorem OS.u3 {H0 H : GHeap} {v : Value} {n : Nat} {xs : List Value} (h : OS 3 3 H0 H v n xs) : U3 H v := fun a ha => ⟨_, (h.ids ha).2.2⟩
theorem mine_no {H : GHeap} {s : Nat} {c0 : List Value} {u : Nat} (hm : H.mine s = some (c0, u)) (hu : u ≠ 3) : ∀ a cs, H.mine a = some (cs, 3) → ¬ a = s := fun a cs h e => by
  rw [e, hm] at h
  simp only [Option.some.injEq, Prod.mk.injEq] at h
  exact hu h.2
structure ScAt (H : GHeap) (s n : Nat) (L : List Fd) (k : Nat) (e : Option Nat) : Prop where
  ex : ∃ fv la, H.mine s = some (scC n fv k la e, 0) ∧ FRd H fv L ∧ U3 H fv
  le : k ≤ L.length
  sz : L.length ≤ 16777216
def tkF (L : List Fd) (q : Bool) (k : Nat) : Option Nat → List UInt8 × Bool × Nat × Option Nat
  | some c => ([], false, k, some c)
  | none => if k < L.length then (if L[k]!.q = q then (L[k]!.t, true, k + 1, none) else ([], false, k, some L[k]!.c)) else ([], false, k, some 0)
theorem tkF_le {L : List Fd} {q : Bool} {k : Nat} {e : Option Nat} (h : k ≤ L.length) : (tkF L q k e).2.2.1 ≤ L.length := by
  cases e with
  | some c => exact h
  | none =>
    simp only [tkF]
    by_cases h1 : k < L.length
    · rw [if_pos h1]
      by_cases h2 : L[k]!.q = q
      · rw [if_pos h2]; exact h1
      · rw [if_neg h2]; exact h
    · rw [if_neg h1]; exact h
theorem done_ok {H : GHeap} {s n k : Nat} {L : List Fd} {e : Option Nat} (h : ScAt H s n L k e) : ∃ r H', gev G 60 [ptr s] H = some (r, H') ∧ (r = .bool e.isSome ∧ H' = H) := by
  refine gev_GW (f := 60) rfl fun Post hPost => ?_
  obtain ⟨fv, la, hm, _⟩ := h.ex
  simp only [frameOf, Nat.reduceAdd]
  cases e with
  | none =>
    have h6 : H.rd s 6 = some (.int .i64 0) := mine_rd hm
    repeat' (first | (exfalso; omega) | refine zn ?_ | refine zK rfl ?_ | refine zP rfl ?_ | ((first | refine zm ?_ | skip); intro _; intros; simp (disch := first | exact zd | fail) only [↓yS, yT, gresults, gone, ↓reduceIte, Nat.reduceEqDiff, Nat.reduceAdd, Nat.reduceMul, reduceCtorEq, Int.reduceToNat, g60, ptr, h6]; first | (rename_i K k; (first | refine yC (k _ _ ?_) | refine zg (k _ ?_)); clear k K) | (rename_i A B C D a b c d; (first | refine zx (a ?_) | refine zy (b ?_) | refine zz (fun hc => c ?_) (fun hc => d ?_) | refine zv (b ?_) | refine zw (a ?_)) <;> clear a b c d A B C D <;> try simp only [yL] at hc)) | refine zA ?_ | refine zB ?_ | refine zF ?_)
    exact hPost _ _ ⟨rfl, rfl⟩
  | some c =>
    have h6 : H.rd s 6 = some (.int .i64 4) := mine_rd hm
    repeat' (first | (exfalso; omega) | refine zn ?_ | refine zK rfl ?_ | refine zP rfl ?_ | ((first | refine zm ?_ | skip); intro _; intros; simp (disch := first | exact zd | fail) only [↓yS, yT, gresults, gone, ↓reduceIte, Nat.reduceEqDiff, Nat.reduceAdd, Nat.reduceMul, reduceCtorEq, Int.reduceToNat, g60, ptr, h6]; first | (rename_i K k; (first | refine yC (k _ _ ?_) | refine zg (k _ ?_)); clear k K) | (rename_i A B C D a b c d; (first | refine zx (a ?_) | refine zy (b ?_) | refine zz (fun hc => c ?_) (fun hc => d ?_) | refine zv (b ?_) | refine zw (a ?_)) <;> clear a b c d A B C D <;> try simp only [yL] at hc)) | refine zA ?_ | refine zB ?_ | refine zF ?_)
    exact hPost _ _ ⟨rfl, rfl⟩
theorem ScAt.fail {H : GHeap} (hw : H.wf) {s n k : Nat} {L : List Fd} {fv : Value} {la : Int} (hm : H.mine s = some (scO n fv k la, 0)) (hf : FRd H fv L) (hs : U3 H fv) (hk : k ≤ L.length) (hz : L.length ≤ 16777216) (c : Nat) :
    ScAt (H.put s (.cells (scE n fv k la c) 0 true)) s n L k (some c) ∧ But (fun j => j = s) H (H.put s (.cells (scE n fv k la c) 0 true)) := by
  have hB : But (fun j => j = s) H (H.put s (.cells (scE n fv k la c) 0 true)) := (But.refl (S := fun j => j = s) hw).put (i := s) rfl (mine_lt hw hm) _
  exact ⟨⟨⟨fv, la, mine_put_same (mine_obj hm).1, hf.but hw hB (hs.ne hm (by decide)), hs.but hw hB (mine_no hm (by decide))⟩, hk, hz⟩, hB⟩
theorem ScAt.go {H : GHeap} (hw : H.wf) {s n k : Nat} {L : List Fd} {fv : Value} {la : Int} (hm : H.mine s = some (scO n fv k la, 0)) (hf : FRd H fv L) (hs : U3 H fv) (hk : k < L.length) (hz : L.length ≤ 16777216) (lb : Int) :
    ScAt (H.put s (.cells (scO n fv (k + 1) lb) 0 true)) s n L (k + 1) none ∧ But (fun j => j = s) H (H.put s (.cells (scO n fv (k + 1) lb) 0 true)) := by
  have hB : But (fun j => j = s) H (H.put s (.cells (scO n fv (k + 1) lb) 0 true)) := (But.refl (S := fun j => j = s) hw).put (i := s) rfl (mine_lt hw hm) _
  exact ⟨⟨⟨fv, lb, mine_put_same (mine_obj hm).1, hf.but hw hB (hs.ne hm (by decide)), hs.but hw hB (mine_no hm (by decide))⟩, hk, hz⟩, hB⟩
theorem note_ok {H : GHeap} (hw : H.wf) {s n k c : Nat} {fv : Value} {la : Int} (hm : H.mine s = some (scO n fv k la, 0)) : ∃ r H', gev G 78 [ptr s, .int .i64 c, .int .i64 4] H = some (r, H') ∧ (H' = H.put s (.cells (scE n fv k la c) 0 true)) := by
  refine gev_GW (f := 78) rfl fun Post hPost => ?_
  have h0 : H.rd s 0 = some (.int .i64 n) := mine_rd hm
  have h6 : H.rd s 6 = some (.int .i64 0) := mine_rd hm
  have hm' : H.mine s = some ([.int .i64 n, fv, .int .i64 k, .int .i64 la, .int .i64 0, .int .i64 0, .int .i64 0], 0) := hm
  have hd : ∃ r H', gev G 60 [ptr s] H = some (r, H') ∧ (r = .bool false ∧ H' = H) := by
    refine gev_GW (f := 60) rfl fun Post hPost => ?_
    simp only [frameOf, Nat.reduceAdd]
    repeat' (first | (exfalso; omega) | refine zn ?_ | refine zK rfl ?_ | refine zP rfl ?_ | ((first | refine zm ?_ | skip); intro _; intros; simp (disch := first | exact zd | fail) only [↓yS, yT, gresults, gone, ↓reduceIte, Nat.reduceEqDiff, Nat.reduceAdd, Nat.reduceMul, reduceCtorEq, Int.reduceToNat, g60, ptr, h6]; first | (rename_i K k; (first | refine yC (k _ _ ?_) | refine zg (k _ ?_)); clear k K) | (rename_i A B C D a b c d; (first | refine zx (a ?_) | refine zy (b ?_) | refine zz (fun hc => c ?_) (fun hc => d ?_) | refine zv (b ?_) | refine zw (a ?_)) <;> clear a b c d A B C D <;> try simp only [yL] at hc)) | refine zA ?_ | refine zB ?_ | refine zF ?_)
    exact hPost _ _ ⟨rfl, rfl⟩
  have hg : gsetn [.int .i64 n, fv, .int .i64 k, .int .i64 la, .int .i64 0, .int .i64 0, .int .i64 0] 4 3 (.agg #[.int .i64 n, .int .i64 c, .int .i64 4]) = some (scE n fv k la c) := by
    simp [gsetn, scE, flatV]
  simp only [frameOf, Nat.reduceAdd]
  repeat' (first | (exfalso; omega) | refine zn ?_ | refine zK rfl ?_ | refine zP rfl ?_ | ((first | refine zm ?_ | skip); intro _; intros; simp (disch := first | exact zd | fail) only [↓yS, yT, gresults, gone, ↓reduceIte, Nat.reduceEqDiff, Nat.reduceAdd, Nat.reduceMul, reduceCtorEq, Int.reduceToNat, g78]; first | (rename_i K k; (first | refine yC (k _ _ ?_) | refine zg (k _ ?_)); clear k K) | (rename_i A B C D a b c d; (first | refine zx (a ?_) | refine zy (b ?_) | refine zz (fun hc => c ?_) (fun hc => d ?_) | refine zv (b ?_) | refine zw (a ?_)) <;> clear a b c d A B C D <;> try simp only [yL] at hc)) | refine zA ?_ | refine zB ?_ | refine zF ?_)
  refine Gw_s fun K' hK' => G1_call (by simp only [gtarget, ↓GArg.ev, ↓evs, ↓Tr.get_set, Nat.reduceEqDiff, if_true, if_false, ↓reduceIte, Option.map_some]; rfl) (hd) fun r1 H1 hq => hK' _ _ ?_
  obtain ⟨rfl, rfl⟩ := hq
  repeat' (first | (exfalso; omega) | refine zn ?_ | refine zK rfl ?_ | refine zP rfl ?_ | ((first | refine zm ?_ | skip); intro _; intros; simp (disch := first | exact zd | fail) only [↓yS, yT, gresults, gone, ↓reduceIte, Nat.reduceEqDiff, Nat.reduceAdd, Nat.reduceMul, reduceCtorEq, Int.reduceToNat, g78, ptr, h0, hm', hg]; first | (rename_i K k; (first | refine yC (k _ _ ?_) | refine zg (k _ ?_)); clear k K) | (rename_i A B C D a b c d; (first | refine zx (a ?_) | refine zy (b ?_) | refine zz (fun hc => c ?_) (fun hc => d ?_) | refine zv (b ?_) | refine zw (a ?_)) <;> clear a b c d A B C D <;> try simp only [yL] at hc)) | refine zA ?_ | refine zB ?_ | refine zF ?_)
  exact hPost _ _ rfl
theorem ScAt.same {H H' : GHeap} (hw : H.wf) {s n k : Nat} {L : List Fd} {e : Option Nat} (h : ScAt H s n L k e) (hs : Same H H') : ScAt H' s n L k e := by
  obtain ⟨fv, la, hm, hf, ha⟩ := h.ex
  exact ⟨⟨fv, la, by rw [hs.mine (mine_lt hw hm)]; exact hm, GArg1.same hf hw hs, ha.same hw hs⟩, h.le, h.sz⟩
theorem ScAt.but {H H' : GHeap} (hw : H.wf) {s n k : Nat} {L : List Fd} {e : Option Nat} (h : ScAt H s n L k e) {S : Nat → Prop} (hb : But S H H') (h0 : ¬ S s) (h3 : ∀ a cs, H.mine a = some (cs, 3) → ¬ S a) : ScAt H' s n L k e := by
  obtain ⟨fv, la, hm, hf, ha⟩ := h.ex
  refine ⟨⟨fv, la, by rw [hb.mine (mine_lt hw hm) h0]; exact hm, hf.but hw hb (fun a hi => ?_), ha.but hw hb h3⟩, h.le, h.sz⟩
  obtain ⟨cs, h1⟩ := ha a hi
  exact h3 a cs h1
theorem gsetn_fd {f : Fd} : gsetn [.string ⟨#[]⟩, .int .i64 0, .bool false] 0 3 (fdV f) = some (fdC f) := gsetn_all rfl rfl (by
  show ([.string (strB f.t), .int .i64 f.c, .bool f.q] : List Value).all flatV = true
  simp [flatV])
set_option maxHeartbeats 1000000 in
theorem take_ok {H : GHeap} (hw : H.wf) {s n k : Nat} {L : List Fd} {e : Option Nat} (h : ScAt H s n L k e) (q : Bool) :
    ∃ r H', gev G 59 [ptr s, .bool q] H = some (r, H') ∧ (r = .tuple #[.string (strB (tkF L q k e).1), .bool (tkF L q k e).2.1] ∧ ScAt H' s n L (tkF L q k e).2.2.1 (tkF L q k e).2.2.2 ∧ But (fun j => j = s) H H') := by
  refine gev_GW (f := 59) rfl fun Post hPost => ?_
  have hkl := h.le
  have hsz := h.sz
  simp only [frameOf, Nat.reduceAdd]
  repeat' (first | (exfalso; omega) | refine zn ?_ | refine zK rfl ?_ | refine zP rfl ?_ | ((first | refine zm ?_ | skip); intro _; intros; simp (disch := first | exact zd | fail) only [↓yS, yT, gresults, gone, ↓reduceIte, Nat.reduceEqDiff, Nat.reduceAdd, Nat.reduceMul, reduceCtorEq, Int.reduceToNat, g59]; first | (rename_i K k; (first | refine yC (k _ _ ?_) | refine zg (k _ ?_)); clear k K) | (rename_i A B C D a b c d; (first | refine zx (a ?_) | refine zy (b ?_) | refine zz (fun hc => c ?_) (fun hc => d ?_) | refine zv (b ?_) | refine zw (a ?_)) <;> clear a b c d A B C D <;> try simp only [yL] at hc)) | refine zA ?_ | refine zB ?_ | refine zF ?_)
  refine Gw_s fun K' hK' => G1_call (by simp only [gtarget, ↓GArg.ev, ↓evs, ↓Tr.get_set, Nat.reduceEqDiff, if_true, if_false, ↓reduceIte, Option.map_some]; rfl) (done_ok h) fun r1 H1 hq => hK' _ _ ?_
  obtain ⟨rfl, rfl⟩ := hq
  obtain ⟨fv, la, hm, hf, hs⟩ := h.ex
  cases e with
  | some c =>
    repeat' (first | (exfalso; omega) | refine zn ?_ | refine zK rfl ?_ | refine zP rfl ?_ | ((first | refine zm ?_ | skip); intro _; intros; simp (disch := first | exact zd | fail) only [↓yS, yT, gresults, gone, ↓reduceIte, Nat.reduceEqDiff, Nat.reduceAdd, Nat.reduceMul, reduceCtorEq, Int.reduceToNat, g59, Option.isSome]; first | (rename_i K k; (first | refine yC (k _ _ ?_) | refine zg (k _ ?_)); clear k K) | (rename_i A B C D a b c d; (first | refine zx (a ?_) | refine zy (b ?_) | refine zz (fun hc => c ?_) (fun hc => d ?_) | refine zv (b ?_) | refine zw (a ?_)) <;> clear a b c d A B C D <;> try simp only [yL] at hc)) | refine zA ?_ | refine zB ?_ | refine zF ?_)
    exact hPost _ _ ⟨rfl, h, But.refl hw⟩
  | none =>
  have hsl := hf.rd.isSl
  have h1 : H1.rd s 1 = some fv := mine_rd hm
  have h2 : H1.rd s 2 = some (.int .i64 k) := mine_rd hm
  have hm' : H1.mine s = some ([.int .i64 n, fv, .int .i64 k, .int .i64 la, .int .i64 0, .int .i64 0, .int .i64 0], 0) := hm
  have hlim := hw.1
  have hlt := mine_lt hw hm
  by_cases hk : k < L.length
  case neg =>
    obtain rfl : k = L.length := by omega
    repeat' (first | (exfalso; omega) | refine zn ?_ | refine zK rfl ?_ | refine zP rfl ?_ | ((first | refine zm ?_ | skip); intro _; intros; simp (disch := first | exact zd | fail) only [↓yS, yT, gresults, gone, ↓reduceIte, Nat.reduceEqDiff, Nat.reduceAdd, Nat.reduceMul, reduceCtorEq, Int.reduceToNat, g59, Option.isSome, ptr, h1, h2, hsl.len]; first | (rename_i K k; (first | refine yC (k _ _ ?_) | refine zg (k _ ?_)); clear k K) | (rename_i A B C D a b c d; (first | refine zx (a ?_) | refine zy (b ?_) | refine zz (fun hc => c ?_) (fun hc => d ?_) | refine zv (b ?_) | refine zw (a ?_)) <;> clear a b c d A B C D <;> try simp only [yL] at hc)) | refine zA ?_ | refine zB ?_ | refine zF ?_)
    refine Gw_s fun K' hK' => G1_call (by simp only [gtarget, ↓GArg.ev, ↓evs, ↓Tr.get_set, Nat.reduceEqDiff, if_true, if_false, ↓reduceIte, Option.map_some]; rfl) (note_ok hw (c := 0) hm) fun r2 H2 hq => hK' _ _ ?_
    subst hq
    repeat' (first | (exfalso; omega) | refine zn ?_ | refine zK rfl ?_ | refine zP rfl ?_ | ((first | refine zm ?_ | skip); intro _; intros; simp (disch := first | exact zd | fail) only [↓yS, yT, gresults, gone, ↓reduceIte, Nat.reduceEqDiff, Nat.reduceAdd, Nat.reduceMul, reduceCtorEq, Int.reduceToNat, g59]; first | (rename_i K k; (first | refine yC (k _ _ ?_) | refine zg (k _ ?_)); clear k K) | (rename_i A B C D a b c d; (first | refine zx (a ?_) | refine zy (b ?_) | refine zz (fun hc => c ?_) (fun hc => d ?_) | refine zv (b ?_) | refine zw (a ?_)) <;> clear a b c d A B C D <;> try simp only [yL] at hc)) | refine zA ?_ | refine zB ?_ | refine zF ?_)
    obtain ⟨k1, k2⟩ := ScAt.fail hw hm hf hs (Nat.le_refl _) hsz 0
    refine hPost _ _ ?_
    simp only [tkF, if_neg hk]
    exact ⟨rfl, k1, k2⟩
  have e1 := FRd.rowN hf hk
  generalize hfk : L[k]! = f at *
  have hS : Same H1 ((H1.add (some (.cells [.string ⟨#[]⟩, .int .i64 0, .bool false] 0 true))).put H1.len (.cells (fdC f) 0 true)) := (Same.refl hw).new _ _
  have hrd : ∀ o, ((H1.add (some (.cells [.string ⟨#[]⟩, .int .i64 0, .bool false] 0 true))).put H1.len (.cells (fdC f) 0 true)).rd H1.len o = (fdC f)[o]? := fun o => rd_put_same
  have fd0 : (fdC f)[0]? = some (.string (strB f.t)) := rfl
  have fd1 : (fdC f)[1]? = some (.int .i64 f.c) := rfl
  have fd2 : (fdC f)[2]? = some (.bool f.q) := rfl
  have hbe : ∀ b c : Bool, gbin .neq (some .bool) (.bool b) (.bool c) = some (.bool (b != c)) := fun b c => by cases b <;> cases c <;> rfl
  by_cases hfq : f.q = q
  · have hne : (f.q != q) = false := by rw [hfq]; simp
    repeat' (first | (exfalso; omega) | refine zn ?_ | refine zK rfl ?_ | refine zP rfl ?_ | ((first | refine zm ?_ | skip); intro _; intros; simp (disch := first | exact zd | fail) only [↓yS, yT, gresults, gone, ↓reduceIte, Nat.reduceEqDiff, Nat.reduceAdd, Nat.reduceMul, reduceCtorEq, Int.reduceToNat, g59, Option.isSome, ptr, h1, h2, hsl.len, hsl.ia, e1, gsetn_fd, fd2, hbe, hne]; first | (rename_i K k; (first | refine yC (k _ _ ?_) | refine zg (k _ ?_)); clear k K) | (rename_i A B C D a b c d; (first | refine zx (a ?_) | refine zy (b ?_) | refine zz (fun hc => c ?_) (fun hc => d ?_) | refine zv (b ?_) | refine zw (a ?_)) <;> clear a b c d A B C D <;> try simp only [yL] at hc)) | refine zA ?_ | refine zB ?_ | refine zF ?_)
    generalize (H1.add (some (.cells [.string ⟨#[]⟩, .int .i64 0, .bool false] 0 true))).put H1.len (.cells (fdC f) 0 true) = H2 at *
    have hw2 := hS.wf
    have hm2 : H2.mine s = some (scO n fv k la, 0) := by rw [hS.mine hlt]; exact hm
    have hm2' : H2.mine s = some ([.int .i64 n, fv, .int .i64 k, .int .i64 la, .int .i64 0, .int .i64 0, .int .i64 0], 0) := hm2
    have hr0 := hrd 0
    have hr1 := hrd 1
    rw [fd0] at hr0
    rw [fd1] at hr1
    have hnes : s ≠ H1.len := by omega
    have hlm := (mine_obj hm2).1
    repeat' (first | (exfalso; omega) | refine zn ?_ | refine zK rfl ?_ | refine zP rfl ?_ | ((first | refine zm ?_ | skip); intro _; intros; simp (disch := first | exact zd | fail) only [↓yS, yT, gresults, gone, ↓reduceIte, Nat.reduceEqDiff, Nat.reduceAdd, Nat.reduceMul, reduceCtorEq, Int.reduceToNat, g59, hm2', hr0, hr1]; first | (rename_i K k; (first | refine yC (k _ _ ?_) | refine zg (k _ ?_)); clear k K) | (rename_i A B C D a b c d; (first | refine zx (a ?_) | refine zy (b ?_) | refine zz (fun hc => c ?_) (fun hc => d ?_) | refine zv (b ?_) | refine zw (a ?_)) <;> clear a b c d A B C D <;> try simp only [yL] at hc)) | refine zA ?_ | refine zB ?_ | refine zF ?_)
    obtain ⟨k1, k2⟩ := ScAt.go hw2 hm2 (GArg1.same hf hw hS) (hs.same hw hS) hk hsz (f.c : Int)
    refine hPost _ _ ?_
    simp only [tkF, if_pos hk, hfk, if_pos hfq]
    exact ⟨trivial, k1, (But.of hS).trans k2⟩
  · have hne : (f.q != q) = true := by simpa using hfq
    repeat' (first | (exfalso; omega) | refine zn ?_ | refine zK rfl ?_ | refine zP rfl ?_ | ((first | refine zm ?_ | skip); intro _; intros; simp (disch := first | exact zd | fail) only [↓yS, yT, gresults, gone, ↓reduceIte, Nat.reduceEqDiff, Nat.reduceAdd, Nat.reduceMul, reduceCtorEq, Int.reduceToNat, g59, Option.isSome, ptr, h1, h2, hsl.len, hsl.ia, e1, gsetn_fd, fd2, fd1, hbe, hne]; first | (rename_i K k; (first | refine yC (k _ _ ?_) | refine zg (k _ ?_)); clear k K) | (rename_i A B C D a b c d; (first | refine zx (a ?_) | refine zy (b ?_) | refine zz (fun hc => c ?_) (fun hc => d ?_) | refine zv (b ?_) | refine zw (a ?_)) <;> clear a b c d A B C D <;> try simp only [yL] at hc)) | refine zA ?_ | refine zB ?_ | refine zF ?_)
    generalize (H1.add (some (.cells [.string ⟨#[]⟩, .int .i64 0, .bool false] 0 true))).put H1.len (.cells (fdC f) 0 true) = H2 at *
    have hw2 := hS.wf
    have hm2 : H2.mine s = some (scO n fv k la, 0) := by rw [hS.mine hlt]; exact hm
    refine Gw_s fun K' hK' => G1_call (by simp only [gtarget, ↓GArg.ev, ↓evs, ↓Tr.get_set, Nat.reduceEqDiff, if_true, if_false, ↓reduceIte, Option.map_some]; rfl) (note_ok hw2 (c := f.c) hm2) fun r2 H3 hq => hK' _ _ ?_
    subst hq
    repeat' (first | (exfalso; omega) | refine zn ?_ | refine zK rfl ?_ | refine zP rfl ?_ | ((first | refine zm ?_ | skip); intro _; intros; simp (disch := first | exact zd | fail) only [↓yS, yT, gresults, gone, ↓reduceIte, Nat.reduceEqDiff, Nat.reduceAdd, Nat.reduceMul, reduceCtorEq, Int.reduceToNat, g59]; first | (rename_i K k; (first | refine yC (k _ _ ?_) | refine zg (k _ ?_)); clear k K) | (rename_i A B C D a b c d; (first | refine zx (a ?_) | refine zy (b ?_) | refine zz (fun hc => c ?_) (fun hc => d ?_) | refine zv (b ?_) | refine zw (a ?_)) <;> clear a b c d A B C D <;> try simp only [yL] at hc)) | refine zA ?_ | refine zB ?_ | refine zF ?_)
    obtain ⟨k1, k2⟩ := ScAt.fail hw2 hm2 (GArg1.same hf hw hS) (hs.same hw hS) hkl hsz f.c
    refine hPost _ _ ?_
    simp only [tkF, if_pos hk, hfk, if_neg hfq]
    exact ⟨rfl, k1, (But.of hS).trans k2⟩
theorem word_take {H : GHeap} (hw : H.wf) {s n k : Nat} {L : List Fd} {e : Option Nat} (h : ScAt H s n L k e) :
    ∃ r H', gev G 32 [ptr s] H = some (r, H') ∧ (r = .string (strB (tkF L false k e).1) ∧ ScAt H' s n L (tkF L false k e).2.2.1 (tkF L false k e).2.2.2 ∧ But (fun j => j = s) H H') := by
  refine gev_GW (f := 32) rfl fun Post hPost => ?_
  simp only [frameOf, Nat.reduceAdd]
  repeat' (first | (exfalso; omega) | refine zn ?_ | refine zK rfl ?_ | refine zP rfl ?_ | ((first | refine zm ?_ | skip); intro _; intros; simp (disch := first | exact zd | fail) only [↓yS, yT, gresults, gone, ↓reduceIte, Nat.reduceEqDiff, Nat.reduceAdd, Nat.reduceMul, reduceCtorEq, Int.reduceToNat, g32]; first | (rename_i K k; (first | refine yC (k _ _ ?_) | refine zg (k _ ?_)); clear k K) | (rename_i A B C D a b c d; (first | refine zx (a ?_) | refine zy (b ?_) | refine zz (fun hc => c ?_) (fun hc => d ?_) | refine zv (b ?_) | refine zw (a ?_)) <;> clear a b c d A B C D <;> try simp only [yL] at hc)) | refine zA ?_ | refine zB ?_ | refine zF ?_)
  refine Gw_s fun K' hK' => G1_call (by simp only [gtarget, ↓GArg.ev, ↓evs, ↓Tr.get_set, Nat.reduceEqDiff, if_true, if_false, ↓reduceIte, Option.map_some]; rfl) (take_ok hw h false) fun r1 H1 hq => hK' _ _ ?_
  obtain ⟨rfl, h1, h2⟩ := hq
  repeat' (first | (exfalso; omega) | refine zn ?_ | refine zK rfl ?_ | refine zP rfl ?_ | ((first | refine zm ?_ | skip); intro _; intros; simp (disch := first | exact zd | fail) only [↓yS, yT, gresults, gone, ↓reduceIte, Nat.reduceEqDiff, Nat.reduceAdd, Nat.reduceMul, reduceCtorEq, Int.reduceToNat, g32]; first | (rename_i K k; (first | refine yC (k _ _ ?_) | refine zg (k _ ?_)); clear k K) | (rename_i A B C D a b c d; (first | refine zx (a ?_) | refine zy (b ?_) | refine zz (fun hc => c ?_) (fun hc => d ?_) | refine zv (b ?_) | refine zw (a ?_)) <;> clear a b c d A B C D <;> try simp only [yL] at hc)) | refine zA ?_ | refine zB ?_ | refine zF ?_)
  exact hPost _ _ ⟨rfl, h1, h2⟩
theorem quoted_take {H : GHeap} (hw : H.wf) {s n k : Nat} {L : List Fd} {e : Option Nat} (h : ScAt H s n L k e) :
    ∃ r H', gev G 33 [ptr s] H = some (r, H') ∧ (r = .string (strB (tkF L true k e).1) ∧ ScAt H' s n L (tkF L true k e).2.2.1 (tkF L true k e).2.2.2 ∧ But (fun j => j = s) H H') := by
  refine gev_GW (f := 33) rfl fun Post hPost => ?_
  simp only [frameOf, Nat.reduceAdd]
  repeat' (first | (exfalso; omega) | refine zn ?_ | refine zK rfl ?_ | refine zP rfl ?_ | ((first | refine zm ?_ | skip); intro _; intros; simp (disch := first | exact zd | fail) only [↓yS, yT, gresults, gone, ↓reduceIte, Nat.reduceEqDiff, Nat.reduceAdd, Nat.reduceMul, reduceCtorEq, Int.reduceToNat, g33]; first | (rename_i K k; (first | refine yC (k _ _ ?_) | refine zg (k _ ?_)); clear k K) | (rename_i A B C D a b c d; (first | refine zx (a ?_) | refine zy (b ?_) | refine zz (fun hc => c ?_) (fun hc => d ?_) | refine zv (b ?_) | refine zw (a ?_)) <;> clear a b c d A B C D <;> try simp only [yL] at hc)) | refine zA ?_ | refine zB ?_ | refine zF ?_)
  refine Gw_s fun K' hK' => G1_call (by simp only [gtarget, ↓GArg.ev, ↓evs, ↓Tr.get_set, Nat.reduceEqDiff, if_true, if_false, ↓reduceIte, Option.map_some]; rfl) (take_ok hw h true) fun r1 H1 hq => hK' _ _ ?_
  obtain ⟨rfl, h1, h2⟩ := hq
  repeat' (first | (exfalso; omega) | refine zn ?_ | refine zK rfl ?_ | refine zP rfl ?_ | ((first | refine zm ?_ | skip); intro _; intros; simp (disch := first | exact zd | fail) only [↓yS, yT, gresults, gone, ↓reduceIte, Nat.reduceEqDiff, Nat.reduceAdd, Nat.reduceMul, reduceCtorEq, Int.reduceToNat, g33]; first | (rename_i K k; (first | refine yC (k _ _ ?_) | refine zg (k _ ?_)); clear k K) | (rename_i A B C D a b c d; (first | refine zx (a ?_) | refine zy (b ?_) | refine zz (fun hc => c ?_) (fun hc => d ?_) | refine zv (b ?_) | refine zw (a ?_)) <;> clear a b c d A B C D <;> try simp only [yL] at hc)) | refine zA ?_ | refine zB ?_ | refine zF ?_)
  exact hPost _ _ ⟨rfl, h1, h2⟩
theorem left_ok {H : GHeap} {s n k : Nat} {L : List Fd} {e : Option Nat} (h : ScAt H s n L k e) : ∃ r H', gev G 34 [ptr s] H = some (r, H') ∧ (r = .int .i64 ((if e = none then L.length - k else 0 : Nat) : Int) ∧ H' = H) := by
  refine gev_GW (f := 34) rfl fun Post hPost => ?_
  have hkl := h.le
  have hsz := h.sz
  simp only [frameOf, Nat.reduceAdd]
  repeat' (first | (exfalso; omega) | refine zn ?_ | refine zK rfl ?_ | refine zP rfl ?_ | ((first | refine zm ?_ | skip); intro _; intros; simp (disch := first | exact zd | fail) only [↓yS, yT, gresults, gone, ↓reduceIte, Nat.reduceEqDiff, Nat.reduceAdd, Nat.reduceMul, reduceCtorEq, Int.reduceToNat, g34]; first | (rename_i K k; (first | refine yC (k _ _ ?_) | refine zg (k _ ?_)); clear k K) | (rename_i A B C D a b c d; (first | refine zx (a ?_) | refine zy (b ?_) | refine zz (fun hc => c ?_) (fun hc => d ?_) | refine zv (b ?_) | refine zw (a ?_)) <;> clear a b c d A B C D <;> try simp only [yL] at hc)) | refine zA ?_ | refine zB ?_ | refine zF ?_)
  refine Gw_s fun K' hK' => G1_call (by simp only [gtarget, ↓GArg.ev, ↓evs, ↓Tr.get_set, Nat.reduceEqDiff, if_true, if_false, ↓reduceIte, Option.map_some]; rfl) (done_ok h) fun r1 H1 hq => hK' _ _ ?_
  obtain ⟨rfl, rfl⟩ := hq
  obtain ⟨fv, la, hm, hf, hs⟩ := h.ex
  cases e with
  | some c =>
    repeat' (first | (exfalso; omega) | refine zn ?_ | refine zK rfl ?_ | refine zP rfl ?_ | ((first | refine zm ?_ | skip); intro _; intros; simp (disch := first | exact zd | fail) only [↓yS, yT, gresults, gone, ↓reduceIte, Nat.reduceEqDiff, Nat.reduceAdd, Nat.reduceMul, reduceCtorEq, Int.reduceToNat, g34, Option.isSome]; first | (rename_i K k; (first | refine yC (k _ _ ?_) | refine zg (k _ ?_)); clear k K) | (rename_i A B C D a b c d; (first | refine zx (a ?_) | refine zy (b ?_) | refine zz (fun hc => c ?_) (fun hc => d ?_) | refine zv (b ?_) | refine zw (a ?_)) <;> clear a b c d A B C D <;> try simp only [yL] at hc)) | refine zA ?_ | refine zB ?_ | refine zF ?_)
    exact hPost _ _ ⟨by simp, by trivial⟩
  | none =>
    have hsl := hf.rd.isSl
    have h1 : H1.rd s 1 = some fv := mine_rd hm
    have h2 : H1.rd s 2 = some (.int .i64 k) := mine_rd hm
    repeat' (first | (exfalso; omega) | refine zn ?_ | refine zK rfl ?_ | refine zP rfl ?_ | ((first | refine zm ?_ | skip); intro _; intros; simp (disch := first | exact zd | fail) only [↓yS, yT, gresults, gone, ↓reduceIte, Nat.reduceEqDiff, Nat.reduceAdd, Nat.reduceMul, reduceCtorEq, Int.reduceToNat, g34, Option.isSome, ptr, h1, h2, hsl.len]; first | (rename_i K k; (first | refine yC (k _ _ ?_) | refine zg (k _ ?_)); clear k K) | (rename_i A B C D a b c d; (first | refine zx (a ?_) | refine zy (b ?_) | refine zz (fun hc => c ?_) (fun hc => d ?_) | refine zv (b ?_) | refine zw (a ?_)) <;> clear a b c d A B C D <;> try simp only [yL] at hc)) | refine zA ?_ | refine zB ?_ | refine zF ?_)
    exact hPost _ _ ⟨by simp; omega, by trivial⟩
def dgV (d : Dg) : Value := .agg #[.int .i64 d.l, .int .i64 d.c, .int .i64 d.e]
theorem end_ok {H : GHeap} (hw : H.wf) {s n k : Nat} {L : List Fd} {e : Option Nat} (h : ScAt H s n L k e) (hd : e = none → k = L.length) :
    ∃ r H', gev G 35 [ptr s] H = some (r, H') ∧ ((match e with | some c => r = .tuple #[dgV ⟨n, c, 4⟩, .bool true] | none => r = .tuple #[dgV ⟨0, 0, 0⟩, .bool false]) ∧ Same H H') := by
  refine gev_GW (f := 35) rfl fun Post hPost => ?_
  obtain ⟨fv, la, hm, hf, hs⟩ := h.ex
  have hsz := h.sz
  have hlim := hw.1
  have hlt := mine_lt hw hm
  have hnes : H.len ≠ s := by omega
  have hS : ∀ C : List Value, Same H ((H.add (some (.cells [.int .i64 0, .int .i64 0, .int .i64 0] 0 true))).put H.len (.cells C 0 true)) := fun C => (Same.refl hw).new _ _
  have hz : ∀ a b c : Int, gsetn [.int .i64 0, .int .i64 0, .int .i64 0] 0 3 (.agg #[.int .i64 a, .int .i64 b, .int .i64 c]) = some [.int .i64 a, .int .i64 b, .int .i64 c] := fun a b c => gsetn_all rfl rfl (by
    show ([.int .i64 a, .int .i64 b, .int .i64 c] : List Value).all flatV = true
    simp [flatV])
  have hrn : ∀ a b c : Int, ((H.add (some (.cells [.int .i64 0, .int .i64 0, .int .i64 0] 0 true))).put H.len (.cells [.int .i64 a, .int .i64 b, .int .i64 c] 0 true)).rdn H.len 0 3 = some (.agg #[.int .i64 a, .int .i64 b, .int .i64 c]) := fun a b c => rdn_put_all rfl
  cases e with
  | some c =>
    have h6 : H.rd s 6 = some (.int .i64 4) := mine_rd hm
    have h4 : H.rdn s 4 3 = some (.agg #[.int .i64 n, .int .i64 c, .int .i64 4]) := by
      unfold GHeap.rdn
      rw [mine_cs hm]; rfl
    simp only [frameOf, Nat.reduceAdd]
    repeat' (first | (exfalso; omega) | refine zn ?_ | refine zK rfl ?_ | refine zP rfl ?_ | ((first | refine zm ?_ | skip); intro _; intros; simp (disch := first | exact zd | fail) only [↓yS, yT, gresults, gone, ↓reduceIte, Nat.reduceEqDiff, Nat.reduceAdd, Nat.reduceMul, reduceCtorEq, Int.reduceToNat, g35, ptr, h6, h4, hz, hrn]; first | (rename_i K k; (first | refine yC (k _ _ ?_) | refine zg (k _ ?_)); clear k K) | (rename_i A B C D a b c d; (first | refine zx (a ?_) | refine zy (b ?_) | refine zz (fun hc => c ?_) (fun hc => d ?_) | refine zv (b ?_) | refine zw (a ?_)) <;> clear a b c d A B C D <;> try simp only [yL] at hc)) | refine zA ?_ | refine zB ?_ | refine zF ?_)
    exact hPost _ _ ⟨rfl, hS _⟩
  | none =>
    have hk := hd rfl
    subst hk
    have hsl := hf.rd.isSl
    have h6 : H.rd s 6 = some (.int .i64 0) := mine_rd hm
    have h1 : H.rd s 1 = some fv := mine_rd hm
    have h2 : H.rd s 2 = some (.int .i64 L.length) := mine_rd hm
    simp only [frameOf, Nat.reduceAdd]
    repeat' (first | (exfalso; omega) | refine zn ?_ | refine zK rfl ?_ | refine zP rfl ?_ | ((first | refine zm ?_ | skip); intro _; intros; simp (disch := first | exact zd | fail) only [↓yS, yT, gresults, gone, ↓reduceIte, Nat.reduceEqDiff, Nat.reduceAdd, Nat.reduceMul, reduceCtorEq, Int.reduceToNat, g35, ptr, h6, h1, h2, hsl.len, hz, hrn]; first | (rename_i K k; (first | refine yC (k _ _ ?_) | refine zg (k _ ?_)); clear k K) | (rename_i A B C D a b c d; (first | refine zx (a ?_) | refine zy (b ?_) | refine zz (fun hc => c ?_) (fun hc => d ?_) | refine zv (b ?_) | refine zw (a ?_)) <;> clear a b c d A B C D <;> try simp only [yL] at hc)) | refine zA ?_ | refine zB ?_ | refine zF ?_)
    exact hPost _ _ ⟨rfl, hS _⟩
theorem build_sc {k : Int} {x : Value} (h : flatV x = true) : fillL [.int .i64 0, .slice none 0 0, .int .i64 0, .int .i64 0, .int .i64 0, .int .i64 0, .int .i64 0] [(0, 2, .agg #[.int .i64 k, x])] = some [.int .i64 k, x, .int .i64 0, .int .i64 0, .int .i64 0, .int .i64 0, .int .i64 0] := by
  simp [fillL, Value.cells, flatV_int, h]
theorem lv_flat {n : Nat} {fv : Value} (h : flatV fv = true) : (Value.agg #[.int .i64 n, fv]).cells.all flatV = true := by
  rw [← Array.all_toList]
  show ([.int .i64 n, fv] : List Value).all flatV = true
  simp only [List.all_cons, List.all_nil, h]; rfl
theorem GArg1.flat {H : GHeap} {s n : Nat} {v : Value} {xs : List Value} (h : GArg1 H s v n xs) : flatV v = true := by
  obtain ⟨a, gc, e, _⟩ := h.sl
  rw [e]; exact flatV_sl
theorem Scan_ok {H : GHeap} (hw : H.wf) {n : Nat} {fv : Value} {L : List Fd} (hf : FRd H fv L) (hz : L.length ≤ 16777216) :
    ∃ r H', gev G 31 [.agg #[.int .i64 n, fv]] H = some (r, H') ∧ ∃ s, r = ptr s ∧ ScAt H' s n L 0 none ∧ Same H H' ∧ H.len ≤ s := by
  refine gev_GW (f := 31) rfl fun Post hPost => ?_
  have hlim := hw.1
  have hff := hf.flat
  have hl := lv_flat (n := n) hff
  have hc : (Value.agg #[.int .i64 n, fv]).cells.toList = [.int .i64 n, fv] := rfl
  have hS1 := (Same.refl hw).add (.cells [.int .i64 n, fv] 0 true)
  have hr : ∀ o, (H.add (some (.cells [.int .i64 n, fv] 0 true))).rd H.len o = ([.int .i64 n, fv] : List Value)[o]? := fun o => rd_add_eq rfl
  simp only [frameOf, Nat.reduceAdd]
  repeat' (first | (exfalso; omega) | refine zn ?_ | refine zK rfl ?_ | refine zP rfl ?_ | ((first | refine zm ?_ | skip); intro _; intros; simp (disch := first | exact zd | fail) only [↓yS, yT, gresults, gone, ↓reduceIte, Nat.reduceEqDiff, Nat.reduceAdd, Nat.reduceMul, reduceCtorEq, Int.reduceToNat, g31, hl, hc]; first | (rename_i K k; (first | refine yC (k _ _ ?_) | refine zg (k _ ?_)); clear k K) | (rename_i A B C D a b c d; (first | refine zx (a ?_) | refine zy (b ?_) | refine zz (fun hc => c ?_) (fun hc => d ?_) | refine zv (b ?_) | refine zw (a ?_)) <;> clear a b c d A B C D <;> try simp only [yL] at hc)) | refine zA ?_ | refine zB ?_ | refine zF ?_)
  have hf1 := GArg1.same hf hw hS1
  have hr0 := hr 0
  have hr1 := hr 1
  have hl1 : (H.add (some (.cells [.int .i64 n, fv] 0 true))).len = H.len + 1 := len_add
  generalize H.add (some (.cells [.int .i64 n, fv] 0 true)) = H1 at *
  have hw1 := hS1.wf
  refine GW_hideN (by simp [hidden, GArg.ev, idOf]) ?_
  repeat' (first | (exfalso; omega) | refine zn ?_ | refine zK rfl ?_ | refine zP rfl ?_ | ((first | refine zm ?_ | skip); intro _; intros; simp (disch := first | exact zd | fail) only [↓yS, yT, gresults, gone, ↓reduceIte, Nat.reduceEqDiff, Nat.reduceAdd, Nat.reduceMul, reduceCtorEq, Int.reduceToNat, g31, hr0, hr1]; first | (rename_i K k; (first | refine yC (k _ _ ?_) | refine zg (k _ ?_)); clear k K) | (rename_i A B C D a b c d; (first | refine zx (a ?_) | refine zy (b ?_) | refine zz (fun hc => c ?_) (fun hc => d ?_) | refine zv (b ?_) | refine zw (a ?_)) <;> clear a b c d A B C D <;> try simp only [yL] at hc)) | refine zA ?_ | refine zB ?_ | refine zF ?_)
  have hO0 : OS 3 3 H1 H1 (.slice none 0 0) 0 [] := OS.nil (Same.refl hw1)
  obtain ⟨v', H2, e, hO, hB⟩ := hO0.appN (by decide) (by decide) hf1 (b := 32) (by omega) (by omega)
  refine Gp_t (by simp [aims, target, GArg.ev, idOf]) fun K' hK' => ?_
  simp (disch := first | exact zd | fail) only [↓yS, yT, ↓reduceIte, Nat.reduceEqDiff, Nat.reduceAdd, Nat.reduceMul, reduceCtorEq, Int.reduceToNat]
  refine G1_eq e (hK' _ _ ?_)
  clear hK' K'
  rw [Nat.zero_add, List.nil_append] at hO
  have hS2 := hO.same
  have hvf := hO.flat
  have hw2 := hS2.wf
  have hlim2 := hw2.1
  have hb1 := fun k => build_ln (k := k) hvf
  have hb2 := fun k => build_sc (k := k) hvf
  have hl7 : (Value.agg #[.int .i64 n, v', .int .i64 0, .int .i64 0, .int .i64 0, .int .i64 0, .int .i64 0]).cells.all flatV = true := by
    rw [← Array.all_toList]
    show ([.int .i64 n, v', .int .i64 0, .int .i64 0, .int .i64 0, .int .i64 0, .int .i64 0] : List Value).all flatV = true
    simp only [List.all_cons, List.all_nil, hvf]; rfl
  have hc7 : (Value.agg #[.int .i64 n, v', .int .i64 0, .int .i64 0, .int .i64 0, .int .i64 0, .int .i64 0]).cells.toList = scO n v' 0 0 := rfl
  repeat' (first | (exfalso; omega) | refine zn ?_ | refine zK rfl ?_ | refine zP rfl ?_ | ((first | refine zm ?_ | skip); intro _; intros; simp (disch := first | exact zd | fail) only [↓yS, yT, gresults, gone, ↓reduceIte, Nat.reduceEqDiff, Nat.reduceAdd, Nat.reduceMul, reduceCtorEq, Int.reduceToNat, g31, hb1, hb2, hl7, hc7]; first | (rename_i K k; (first | refine yC (k _ _ ?_) | refine zg (k _ ?_)); clear k K) | (rename_i A B C D a b c d; (first | refine zx (a ?_) | refine zy (b ?_) | refine zz (fun hc => c ?_) (fun hc => d ?_) | refine zv (b ?_) | refine zw (a ?_)) <;> clear a b c d A B C D <;> try simp only [yL] at hc)) | refine zA ?_ | refine zB ?_ | refine zF ?_)
  have hS3 := (hS1.trans hS2).add (.cells (scO n v' 0 0) 0 true)
  have hF2 : FRd H2 v' L := hO.arg
  refine hPost _ _ ⟨H2.len, rfl, ⟨⟨v', 0, mine_add_eq rfl hlim2, GArg1.same hF2 hw2 ((Same.refl hw2).add _), hO.u3.same hw2 ((Same.refl hw2).add _)⟩, Nat.zero_le _, hz⟩, hS3, (hS1.trans hS2).len⟩
end Go.Gh
