/-
  lines' reference, walked: scanners; the reference's Take.
-/
import Derived.Test.YtfldcmeecpgpeaaDoorGlP4
namespace Go.Gh
set_option linter.unusedSimpArgs false
set_option linter.unusedVariables false
open Go.RowKit Go.Lib
set_option maxRecDepth 4000
theorem But.putN {S : Nat → Prop} {H H' : GHeap} (h : But S H H') {i : Nat} (hi : H.len ≤ i) (hl : i < H'.len) (o : GObj) : But S H (H'.put i o) := by
  refine ⟨h.lim, h.len, fun k hk hs => ?_, wf_put h.wf hl o⟩
  rw [obj_put, if_neg (by omega)]; exact h.obj k hk hs
def rsC (n : Nat) (fv : Value) (k : Nat) : Option Nat → List Value
  | none => [.int .i64 n, fv, .int .i64 k, .int .i64 0, .int .i64 0]
  | some c => [.int .i64 n, fv, .int .i64 k, .int .i64 4, .int .i64 c]
structure RcAt (H : GHeap) (s n : Nat) (L : List Fd) (k : Nat) (e : Option Nat) : Prop where
  ex : ∃ fv, H.mine s = some (rsC n fv k e, 0) ∧ FRd H fv L ∧ U3 H fv
  le : k ≤ L.length
  sz : L.length ≤ 16777216
theorem RcAt.but {H H' : GHeap} (hw : H.wf) {s n k : Nat} {L : List Fd} {e : Option Nat} (h : RcAt H s n L k e) {S : Nat → Prop} (hb : But S H H') (h0 : ¬ S s) (h3 : ∀ a cs, H.mine a = some (cs, 3) → ¬ S a) : RcAt H' s n L k e := by
  obtain ⟨fv, hm, hf, ha⟩ := h.ex
  refine ⟨⟨fv, by rw [hb.mine (mine_lt hw hm) h0]; exact hm, hf.but hw hb (fun a hi => ?_), ha.but hw hb h3⟩, h.le, h.sz⟩
  obtain ⟨cs, h1⟩ := ha a hi
  exact h3 a cs h1
theorem RcAt.same {H H' : GHeap} (hw : H.wf) {s n k : Nat} {L : List Fd} {e : Option Nat} (h : RcAt H s n L k e) (hs : Same H H') : RcAt H' s n L k e := h.but hw (S := fun _ => False) (But.of hs) (fun h => h) fun _ _ _ h => h
theorem RcAt.set {H : GHeap} (hw : H.wf) {s n k : Nat} {L : List Fd} {e : Option Nat} {fv : Value} (hm : H.mine s = some (rsC n fv k e, 0)) (hf : FRd H fv L) (hu : U3 H fv) {k' : Nat} (e' : Option Nat) (hk : k' ≤ L.length) (hz : L.length ≤ 16777216) :
    RcAt (H.put s (.cells (rsC n fv k' e') 0 true)) s n L k' e' ∧ But (fun j => j = s) H (H.put s (.cells (rsC n fv k' e') 0 true)) := by
  have hB : But (fun j => j = s) H (H.put s (.cells (rsC n fv k' e') 0 true)) := (But.refl (S := fun j => j = s) hw).put (i := s) rfl (mine_lt hw hm) _
  exact ⟨⟨⟨fv, mine_put_same (mine_obj hm).1, hf.but hw hB (hu.ne hm (by decide)), hu.but hw hB (mine_no hm (by decide))⟩, hk, hz⟩, hB⟩
theorem fail_ok {H : GHeap} {s n k c : Nat} {fv : Value} (hm : H.mine s = some (rsC n fv k none, 0)) : ∃ r H', gev G 94 [ptr s, .int .i64 4, .int .i64 c] H = some (r, H') ∧ (H' = H.put s (.cells (rsC n fv k (some c)) 0 true)) := by
  refine gev_GW (f := 94) rfl fun Post hPost => ?_
  have h3 : H.rd s 3 = some (.int .i64 0) := mine_rd hm
  have hm' : H.mine s = some ([.int .i64 n, fv, .int .i64 k, .int .i64 0, .int .i64 0], 0) := hm
  have hlm := (mine_obj hm).1
  simp only [frameOf, Nat.reduceAdd]
  repeat' (first | (exfalso; omega) | refine zn ?_ | refine zK rfl ?_ | refine zP rfl ?_ | ((first | refine zm ?_ | skip); intro _; intros; simp (disch := first | exact zd | fail) only [↓yS, yT, ↓reduceIte, Nat.reduceEqDiff, Nat.reduceAdd, Nat.reduceMul, reduceCtorEq, Int.reduceToNat, g94, ptr, h3, hm', put_put]; first | (rename_i K k; refine yC (k _ _ ?_); clear k K) | (rename_i A B C D a b c d; (first | refine zX (a ?_) | refine zY (b ?_) | refine zZ (fun hc => c ?_) (fun hc => d ?_)) <;> clear a b c d A B C D <;> try simp only [yL] at hc)) | (refine yA ?_; intro A a; simp only [↓yG, Nat.reduceEqDiff, ↓reduceIte, g94, ptr, h3, hm', put_put]; refine yB (a ?_); clear a A) | (refine yD ?_; simp only [gresults, ↓yG, Nat.reduceEqDiff, ↓reduceIte, Option.bind_some, gld_1, gld_n, g94, ptr, h3, hm', put_put]; refine ⟨_, rfl, ?_⟩; simp only [gone]) | refine zA ?_ | refine zB ?_ | refine zF ?_)
  exact hPost _ _ (by first | rfl | (rw [put_put]; rfl))
theorem rleft_ok {H : GHeap} {s n k : Nat} {L : List Fd} {e : Option Nat} (h : RcAt H s n L k e) : ∃ r H', gev G 73 [ptr s] H = some (r, H') ∧ (r = .int .i64 ((if e = none then L.length - k else 0 : Nat) : Int) ∧ H' = H) := by
  refine gev_GW (f := 73) rfl fun Post hPost => ?_
  have hkl := h.le
  have hsz := h.sz
  obtain ⟨fv, hm, hf, hs⟩ := h.ex
  simp only [frameOf, Nat.reduceAdd]
  cases e with
  | some c =>
    have h3 : H.rd s 3 = some (.int .i64 4) := mine_rd hm
    repeat' (first | (exfalso; omega) | refine zn ?_ | refine zK rfl ?_ | refine zP rfl ?_ | ((first | refine zm ?_ | skip); intro _; intros; simp (disch := first | exact zd | fail) only [↓yS, yT, ↓reduceIte, Nat.reduceEqDiff, Nat.reduceAdd, Nat.reduceMul, reduceCtorEq, Int.reduceToNat, g73, ptr, h3]; first | (rename_i K k; refine yC (k _ _ ?_); clear k K) | (rename_i A B C D a b c d; (first | refine zX (a ?_) | refine zY (b ?_) | refine zZ (fun hc => c ?_) (fun hc => d ?_)) <;> clear a b c d A B C D <;> try simp only [yL] at hc)) | (refine yA ?_; intro A a; simp only [↓yG, Nat.reduceEqDiff, ↓reduceIte, g73, ptr, h3]; refine yB (a ?_); clear a A) | (refine yD ?_; simp only [gresults, ↓yG, Nat.reduceEqDiff, ↓reduceIte, Option.bind_some, gld_1, gld_n, g73, ptr, h3]; refine ⟨_, rfl, ?_⟩; simp only [gone]) | refine zA ?_ | refine zB ?_ | refine zF ?_)
    exact hPost _ _ ⟨by simp, rfl⟩
  | none =>
    have hsl := hf.rd.isSl
    have h1 : H.rd s 1 = some fv := mine_rd hm
    have h2 : H.rd s 2 = some (.int .i64 k) := mine_rd hm
    have h3 : H.rd s 3 = some (.int .i64 0) := mine_rd hm
    repeat' (first | (exfalso; omega) | refine zn ?_ | refine zK rfl ?_ | refine zP rfl ?_ | ((first | refine zm ?_ | skip); intro _; intros; simp (disch := first | exact zd | fail) only [↓yS, yT, ↓reduceIte, Nat.reduceEqDiff, Nat.reduceAdd, Nat.reduceMul, reduceCtorEq, Int.reduceToNat, g73, ptr, h1, h2, h3, hsl.len]; first | (rename_i K k; refine yC (k _ _ ?_); clear k K) | (rename_i A B C D a b c d; (first | refine zX (a ?_) | refine zY (b ?_) | refine zZ (fun hc => c ?_) (fun hc => d ?_)) <;> clear a b c d A B C D <;> try simp only [yL] at hc)) | (refine yA ?_; intro A a; simp only [↓yG, Nat.reduceEqDiff, ↓reduceIte, g73, ptr, h1, h2, h3, hsl.len]; refine yB (a ?_); clear a A) | (refine yD ?_; simp only [gresults, ↓yG, Nat.reduceEqDiff, ↓reduceIte, Option.bind_some, gld_1, gld_n, g73, ptr, h1, h2, h3, hsl.len]; refine ⟨_, rfl, ?_⟩; simp only [gone]) | refine zA ?_ | refine zB ?_ | refine zF ?_)
    exact hPost _ _ ⟨by simp; omega, rfl⟩
set_option maxHeartbeats 1000000 in
theorem rtake_ok {H : GHeap} (hw : H.wf) {s n k : Nat} {L : List Fd} {e : Option Nat} (h : RcAt H s n L k e) (q : Bool) :
    ∃ r H', gev G 71 [ptr s, .bool q] H = some (r, H') ∧ ((∃ f : Fd, r = .tuple #[fdV f, .bool (tkF L q k e).2.1] ∧ f.t = (tkF L q k e).1) ∧ RcAt H' s n L (tkF L q k e).2.2.1 (tkF L q k e).2.2.2 ∧ But (fun j => j = s) H H') := by
  refine gev_GW (f := 71) rfl fun Post hPost => ?_
  have hkl := h.le
  have hsz := h.sz
  have hlim := hw.1
  have hS1 : Same H (H.add (some (.cells [.string ⟨#[]⟩, .int .i64 0, .bool false] 0 true))) := (Same.refl hw).add _
  have hS2 : ∀ o, Same H ((H.add (some (.cells [.string ⟨#[]⟩, .int .i64 0, .bool false] 0 true))).put H.len o) := fun o => (Same.refl hw).new _ _
  have hz0 : gsetn [.string ⟨#[]⟩, .int .i64 0, .bool false] 0 3 (.agg #[.string ⟨#[]⟩, .int .i64 0, .bool false]) = some [.string ⟨#[]⟩, .int .i64 0, .bool false] := gsetn_fd (f := ⟨[], 0, false⟩)
  have hw1 := hS1.wf
  have hrz : ∀ H' : GHeap, (H'.put H.len (.cells [.string ⟨#[]⟩, .int .i64 0, .bool false] 0 true)).rdn H.len 0 3 = some (fdV ⟨[], 0, false⟩) := fun _ => rdn_put_all rfl
  have hrf : ∀ (H' : GHeap) (f : Fd), (H'.put H.len (.cells (fdC f) 0 true)).rdn H.len 0 3 = some (fdV f) := fun _ _ => rdn_put_all rfl
  simp only [frameOf, Nat.reduceAdd]
  obtain ⟨fv, hm, hf, hs⟩ := h.ex
  have hlt := mine_lt hw hm
  have hnes : s ≠ H.len := by omega
  cases e with
  | some c =>
    have h3 : H.rd s 3 = some (.int .i64 4) := mine_rd hm
    repeat' (first | (exfalso; omega) | refine zn ?_ | refine zK rfl ?_ | refine zP rfl ?_ | ((first | refine zm ?_ | skip); intro _; intros; simp (disch := first | exact zd | fail) only [↓yS, yT, ↓reduceIte, Nat.reduceEqDiff, Nat.reduceAdd, Nat.reduceMul, reduceCtorEq, Int.reduceToNat, g71, ptr, h3, hz0, hrz]; first | (rename_i K k; refine yC (k _ _ ?_); clear k K) | (rename_i A B C D a b c d; (first | refine zX (a ?_) | refine zY (b ?_) | refine zZ (fun hc => c ?_) (fun hc => d ?_)) <;> clear a b c d A B C D <;> try simp only [yL] at hc)) | (refine yA ?_; intro A a; simp only [↓yG, Nat.reduceEqDiff, ↓reduceIte, g71, ptr, h3, hz0, hrz]; refine yB (a ?_); clear a A) | (refine yD ?_; simp only [gresults, ↓yG, Nat.reduceEqDiff, ↓reduceIte, Option.bind_some, gld_1, gld_n, g71, ptr, h3, hz0, hrz]; refine ⟨_, rfl, ?_⟩; simp only [gone]) | refine zA ?_ | refine zB ?_ | refine zF ?_)
    refine hPost _ _ ⟨⟨⟨[], 0, false⟩, ?_, rfl⟩, h.same hw (hS2 _), But.of (hS2 _)⟩
    first | rfl | (simp [fdV, tkF]; rfl)
  | none =>
  have h3 : H.rd s 3 = some (.int .i64 0) := mine_rd hm
  have h1 : H.rd s 1 = some fv := mine_rd hm
  have h2 : H.rd s 2 = some (.int .i64 k) := mine_rd hm
  have hsl := hf.rd.isSl
  repeat' (first | (exfalso; omega) | refine zn ?_ | refine zK rfl ?_ | refine zP rfl ?_ | ((first | refine zm ?_ | skip); intro _; intros; simp (disch := first | exact zd | fail) only [↓yS, yT, ↓reduceIte, Nat.reduceEqDiff, Nat.reduceAdd, Nat.reduceMul, reduceCtorEq, Int.reduceToNat, g71, ptr, h3]; first | (rename_i K k; refine yC (k _ _ ?_); clear k K) | (rename_i A B C D a b c d; (first | refine zX (a ?_) | refine zY (b ?_) | refine zZ (fun hc => c ?_) (fun hc => d ?_)) <;> clear a b c d A B C D <;> try simp only [yL] at hc)) | (refine yA ?_; intro A a; simp only [↓yG, Nat.reduceEqDiff, ↓reduceIte, g71, ptr, h3]; refine yB (a ?_); clear a A) | (refine yD ?_; simp only [gresults, ↓yG, Nat.reduceEqDiff, ↓reduceIte, Option.bind_some, gld_1, gld_n, g71, ptr, h3]; refine ⟨_, rfl, ?_⟩; simp only [gone]) | refine zA ?_ | refine zB ?_ | refine zF ?_)
  refine Gw_s fun K' hK' => G1_call (by simp only [gtarget, ↓GArg.ev, ↓evs, ↓Tr.get_set, Nat.reduceEqDiff, if_true, if_false, ↓reduceIte, Option.map_some]; rfl) (rleft_ok (h.same hw hS1)) fun r2 H2 hq => hK' _ _ ?_
  obtain ⟨rfl, rfl⟩ := hq
  rw [if_pos rfl]
  by_cases hk : k < L.length
  case neg =>
    obtain rfl : k = L.length := by omega
    rw [Nat.sub_self]
    have hm1 : (H.add (some (.cells [.string ⟨#[]⟩, .int .i64 0, .bool false] 0 true))).mine s = some (rsC n fv L.length none, 0) := by rw [hS1.mine hlt]; exact hm
    repeat' (first | (exfalso; omega) | refine zn ?_ | refine zK rfl ?_ | refine zP rfl ?_ | ((first | refine zm ?_ | skip); intro _; intros; simp (disch := first | exact zd | fail) only [↓yS, yT, ↓reduceIte, Nat.reduceEqDiff, Nat.reduceAdd, Nat.reduceMul, reduceCtorEq, Int.reduceToNat, g71]; first | (rename_i K k; refine yC (k _ _ ?_); clear k K) | (rename_i A B C D a b c d; (first | refine zX (a ?_) | refine zY (b ?_) | refine zZ (fun hc => c ?_) (fun hc => d ?_)) <;> clear a b c d A B C D <;> try simp only [yL] at hc)) | (refine yA ?_; intro A a; simp only [↓yG, Nat.reduceEqDiff, ↓reduceIte, g71]; refine yB (a ?_); clear a A) | (refine yD ?_; simp only [gresults, ↓yG, Nat.reduceEqDiff, ↓reduceIte, Option.bind_some, gld_1, gld_n, g71]; refine ⟨_, rfl, ?_⟩; simp only [gone]) | refine zA ?_ | refine zB ?_ | refine zF ?_)
    refine Gw_s fun K' hK' => G1_call (by simp only [gtarget, ↓GArg.ev, ↓evs, ↓Tr.get_set, Nat.reduceEqDiff, if_true, if_false, ↓reduceIte, Option.map_some]; rfl) (fail_ok (c := 0) hm1) fun r2 H2 hq => hK' _ _ ?_
    subst hq
    have hmz : ((H.add (some (.cells [.string ⟨#[]⟩, .int .i64 0, .bool false] 0 true))).put s (.cells (rsC n fv L.length (some 0)) 0 true)).mine H.len = some ([.string ⟨#[]⟩, .int .i64 0, .bool false], 0) := by
      rw [mine_put_ne hnes]; exact mine_add_eq rfl hlim
    obtain ⟨k1, k2⟩ := RcAt.set (e := none) hw1 hm1 (GArg1.same hf hw hS1) (hs.same hw hS1) (some 0) (Nat.le_refl _) hsz
    have hl2 := k2.len
    rw [len_add] at hl2
    repeat' (first | (exfalso; omega) | refine zn ?_ | refine zK rfl ?_ | refine zP rfl ?_ | ((first | refine zm ?_ | skip); intro _; intros; simp (disch := first | exact zd | fail) only [↓yS, yT, ↓reduceIte, Nat.reduceEqDiff, Nat.reduceAdd, Nat.reduceMul, reduceCtorEq, Int.reduceToNat, g71, hmz, hz0, hrz]; first | (rename_i K k; refine yC (k _ _ ?_); clear k K) | (rename_i A B C D a b c d; (first | refine zX (a ?_) | refine zY (b ?_) | refine zZ (fun hc => c ?_) (fun hc => d ?_)) <;> clear a b c d A B C D <;> try simp only [yL] at hc)) | (refine yA ?_; intro A a; simp only [↓yG, Nat.reduceEqDiff, ↓reduceIte, g71, hmz, hz0, hrz]; refine yB (a ?_); clear a A) | (refine yD ?_; simp only [gresults, ↓yG, Nat.reduceEqDiff, ↓reduceIte, Option.bind_some, gld_1, gld_n, g71, hmz, hz0, hrz]; refine ⟨_, rfl, ?_⟩; simp only [gone]) | refine zA ?_ | refine zB ?_ | refine zF ?_)
    generalize ((H.add (some (.cells [.string ⟨#[]⟩, .int .i64 0, .bool false] 0 true))).put s (.cells (rsC n fv L.length (some 0)) 0 true)) = H2 at *
    have hB3 : But (fun j => j = H.len) H2 (H2.put H.len (.cells [.string ⟨#[]⟩, .int .i64 0, .bool false] 0 true)) := (But.refl (S := fun j => j = H.len) k2.wf).put rfl (by omega) _
    have hBF := ((But.of (S := fun j => j = s) hS1).trans k2).putN (i := H.len) (Nat.le_refl _) (by omega) (.cells [.string ⟨#[]⟩, .int .i64 0, .bool false] 0 true)
    refine hPost _ _ ?_
    simp only [tkF, if_neg hk]
    exact ⟨⟨⟨[], 0, false⟩, rfl, rfl⟩, k1.but k2.wf hB3 hnes (mine_no hmz (by decide)), hBF⟩
  have e1 := FRd.rowN hf hk
  have hb3 := hf.rd.lt (by omega)
  generalize hfk : L[k]! = f at *
  have fd0 : (fdC f)[0]? = some (.string (strB f.t)) := rfl
  have fd1 : (fdC f)[1]? = some (.int .i64 f.c) := rfl
  have fd2 : (fdC f)[2]? = some (.bool f.q) := rfl
  have hbe : ∀ b c : Bool, gbin .neq (some .bool) (.bool b) (.bool c) = some (.bool (b != c)) := fun b c => by cases b <;> cases c <;> rfl
  have hkz : ¬ ((L.length - k : Nat) : Int) = 0 := by omega
  have hS3 : Same H (((H.add (some (.cells [.string ⟨#[]⟩, .int .i64 0, .bool false] 0 true))).add (some (.cells [.string ⟨#[]⟩, .int .i64 0, .bool false] 0 true))).put (H.len + 1) (.cells (fdC f) 0 true)) := (hS1.add _).put (by omega) (by simp only [len_add]; omega) _
  have hm6 : (((H.add (some (.cells [.string ⟨#[]⟩, .int .i64 0, .bool false] 0 true))).add (some (.cells [.string ⟨#[]⟩, .int .i64 0, .bool false] 0 true))).put (H.len + 1) (.cells (fdC f) 0 true)).mine (H.len + 1) = some (fdC f, 0) := mine_put_same (by simp only [lim_add]; omega)
  have hm4 : (((H.add (some (.cells [.string ⟨#[]⟩, .int .i64 0, .bool false] 0 true))).add (some (.cells [.string ⟨#[]⟩, .int .i64 0, .bool false] 0 true))).put (H.len + 1) (.cells (fdC f) 0 true)).mine H.len = some ([.string ⟨#[]⟩, .int .i64 0, .bool false], 0) := by
    rw [mine_put_ne (by omega), mine_add_ne (by rw [len_add]; omega)]; exact mine_add_eq rfl hlim
  have hl3 : (((H.add (some (.cells [.string ⟨#[]⟩, .int .i64 0, .bool false] 0 true))).add (some (.cells [.string ⟨#[]⟩, .int .i64 0, .bool false] 0 true))).put (H.len + 1) (.cells (fdC f) 0 true)).len = H.len + 2 := by simp only [len_put, len_add]
  by_cases hfq : f.q = q
  · have hne : (f.q != q) = false := by rw [hfq]; simp
    repeat' (first | (exfalso; omega) | refine zn ?_ | refine zK rfl ?_ | refine zP rfl ?_ | ((first | refine zm ?_ | skip); intro _; intros; simp (disch := first | exact zd | fail) only [↓yS, yT, ↓reduceIte, Nat.reduceEqDiff, Nat.reduceAdd, Nat.reduceMul, reduceCtorEq, Int.reduceToNat, g71, ptr, h1, h2, hsl.ia, e1, gsetn_fd, hkz, fd2, fd1, hbe, hne]; first | (rename_i K k; refine yC (k _ _ ?_); clear k K) | (rename_i A B C D a b c d; (first | refine zX (a ?_) | refine zY (b ?_) | refine zZ (fun hc => c ?_) (fun hc => d ?_)) <;> clear a b c d A B C D <;> try simp only [yL] at hc)) | (refine yA ?_; intro A a; simp only [↓yG, Nat.reduceEqDiff, ↓reduceIte, g71, ptr, h1, h2, hsl.ia, e1, gsetn_fd, hkz, fd2, fd1, hbe, hne]; refine yB (a ?_); clear a A) | (refine yD ?_; simp only [gresults, ↓yG, Nat.reduceEqDiff, ↓reduceIte, Option.bind_some, gld_1, gld_n, g71, ptr, h1, h2, hsl.ia, e1, gsetn_fd, hkz, fd2, fd1, hbe, hne]; refine ⟨_, rfl, ?_⟩; simp only [gone]) | refine zA ?_ | refine zB ?_ | refine zF ?_)
    generalize (((H.add (some (.cells [.string ⟨#[]⟩, .int .i64 0, .bool false] 0 true))).add (some (.cells [.string ⟨#[]⟩, .int .i64 0, .bool false] 0 true))).put (H.len + 1) (.cells (fdC f) 0 true)) = H3 at *
    have hw3 := hS3.wf
    have hm3 : H3.mine s = some (rsC n fv k none, 0) := by rw [hS3.mine hlt]; exact hm
    have hm3' : H3.mine s = some ([.int .i64 n, fv, .int .i64 k, .int .i64 0, .int .i64 0], 0) := hm3
    have hr2 : H3.rd s 2 = some (.int .i64 k) := mine_rd hm3
    have hq2 : H3.rd (H.len + 1) 2 = some (.bool f.q) := mine_rd hm6
    have hlm3 := (mine_obj hm3).1
    obtain ⟨k1, k2⟩ := RcAt.set (e := none) (k' := k + 1) hw3 hm3 (GArg1.same hf hw hS3) (hs.same hw hS3) none (by omega) hsz
    have hq6 : (H3.put s (.cells (rsC n fv (k + 1) none) 0 true)).rdn (H.len + 1) 0 3 = some (fdV f) := by
      rw [rdn_put_ne (by omega)]
      unfold GHeap.rdn
      rw [mine_cs hm6]; rfl
    have hm4' : (H3.put s (.cells (rsC n fv (k + 1) none) 0 true)).mine H.len = some ([.string ⟨#[]⟩, .int .i64 0, .bool false], 0) := by rw [mine_put_ne (by omega)]; exact hm4
    have hset : (.cells [.int .i64 n, fv, .int .i64 ((k : Int) + 1), .int .i64 0, .int .i64 0] 0 true : GObj) = .cells (rsC n fv (k + 1) none) 0 true := rfl
    repeat' (first | (exfalso; omega) | refine zn ?_ | refine zK rfl ?_ | refine zP rfl ?_ | ((first | refine zm ?_ | skip); intro _; intros; simp (disch := first | exact zd | fail) only [↓yS, yT, ↓reduceIte, Nat.reduceEqDiff, Nat.reduceAdd, Nat.reduceMul, reduceCtorEq, Int.reduceToNat, g71, ptr, hq2, hbe, hne, hr2, hm3', hset, hq6, hm4', gsetn_fd, hrf]; first | (rename_i K k; refine yC (k _ _ ?_); clear k K) | (rename_i A B C D a b c d; (first | refine zX (a ?_) | refine zY (b ?_) | refine zZ (fun hc => c ?_) (fun hc => d ?_)) <;> clear a b c d A B C D <;> try simp only [yL] at hc)) | (refine yA ?_; intro A a; simp only [↓yG, Nat.reduceEqDiff, ↓reduceIte, g71, ptr, hq2, hbe, hne, hr2, hm3', hset, hq6, hm4', gsetn_fd, hrf]; refine yB (a ?_); clear a A) | (refine yD ?_; simp only [gresults, ↓yG, Nat.reduceEqDiff, ↓reduceIte, Option.bind_some, gld_1, gld_n, g71, ptr, hq2, hbe, hne, hr2, hm3', hset, hq6, hm4', gsetn_fd, hrf]; refine ⟨_, rfl, ?_⟩; simp only [gone]) | refine zA ?_ | refine zB ?_ | refine zF ?_)
    have hl4 := k2.len
    generalize H3.put s (.cells (rsC n fv (k + 1) none) 0 true) = H4 at *
    have hB5 : But (fun j => j = H.len) H4 (H4.put H.len (.cells (fdC f) 0 true)) := (But.refl (S := fun j => j = H.len) k2.wf).put rfl (by omega) _
    have hBF := ((But.of (S := fun j => j = s) hS3).trans k2).putN (i := H.len) (Nat.le_refl _) (by omega) (.cells (fdC f) 0 true)
    refine hPost _ _ ?_
    simp only [tkF, if_pos hk, hfk, if_pos hfq]
    exact ⟨⟨f, rfl, rfl⟩, k1.but k2.wf hB5 hnes (mine_no hm4' (by decide)), hBF⟩
  · have hne : (f.q != q) = true := by simpa using hfq
    repeat' (first | (exfalso; omega) | refine zn ?_ | refine zK rfl ?_ | refine zP rfl ?_ | ((first | refine zm ?_ | skip); intro _; intros; simp (disch := first | exact zd | fail) only [↓yS, yT, ↓reduceIte, Nat.reduceEqDiff, Nat.reduceAdd, Nat.reduceMul, reduceCtorEq, Int.reduceToNat, g71, ptr, h1, h2, hsl.ia, e1, gsetn_fd, hkz, fd2, fd1, hbe, hne]; first | (rename_i K k; refine yC (k _ _ ?_); clear k K) | (rename_i A B C D a b c d; (first | refine zX (a ?_) | refine zY (b ?_) | refine zZ (fun hc => c ?_) (fun hc => d ?_)) <;> clear a b c d A B C D <;> try simp only [yL] at hc)) | (refine yA ?_; intro A a; simp only [↓yG, Nat.reduceEqDiff, ↓reduceIte, g71, ptr, h1, h2, hsl.ia, e1, gsetn_fd, hkz, fd2, fd1, hbe, hne]; refine yB (a ?_); clear a A) | (refine yD ?_; simp only [gresults, ↓yG, Nat.reduceEqDiff, ↓reduceIte, Option.bind_some, gld_1, gld_n, g71, ptr, h1, h2, hsl.ia, e1, gsetn_fd, hkz, fd2, fd1, hbe, hne]; refine ⟨_, rfl, ?_⟩; simp only [gone]) | refine zA ?_ | refine zB ?_ | refine zF ?_)
    generalize (((H.add (some (.cells [.string ⟨#[]⟩, .int .i64 0, .bool false] 0 true))).add (some (.cells [.string ⟨#[]⟩, .int .i64 0, .bool false] 0 true))).put (H.len + 1) (.cells (fdC f) 0 true)) = H3 at *
    have hw3 := hS3.wf
    have hm3 : H3.mine s = some (rsC n fv k none, 0) := by rw [hS3.mine hlt]; exact hm
    have hq2 : H3.rd (H.len + 1) 2 = some (.bool f.q) := mine_rd hm6
    have hq1 : H3.rd (H.len + 1) 1 = some (.int .i64 f.c) := mine_rd hm6
    repeat' (first | (exfalso; omega) | refine zn ?_ | refine zK rfl ?_ | refine zP rfl ?_ | ((first | refine zm ?_ | skip); intro _; intros; simp (disch := first | exact zd | fail) only [↓yS, yT, ↓reduceIte, Nat.reduceEqDiff, Nat.reduceAdd, Nat.reduceMul, reduceCtorEq, Int.reduceToNat, g71, ptr, hq2, hq1, hbe, hne]; first | (rename_i K k; refine yC (k _ _ ?_); clear k K) | (rename_i A B C D a b c d; (first | refine zX (a ?_) | refine zY (b ?_) | refine zZ (fun hc => c ?_) (fun hc => d ?_)) <;> clear a b c d A B C D <;> try simp only [yL] at hc)) | (refine yA ?_; intro A a; simp only [↓yG, Nat.reduceEqDiff, ↓reduceIte, g71, ptr, hq2, hq1, hbe, hne]; refine yB (a ?_); clear a A) | (refine yD ?_; simp only [gresults, ↓yG, Nat.reduceEqDiff, ↓reduceIte, Option.bind_some, gld_1, gld_n, g71, ptr, hq2, hq1, hbe, hne]; refine ⟨_, rfl, ?_⟩; simp only [gone]) | refine zA ?_ | refine zB ?_ | refine zF ?_)
    refine Gw_s fun K' hK' => G1_call (by simp only [gtarget, ↓GArg.ev, ↓evs, ↓Tr.get_set, Nat.reduceEqDiff, if_true, if_false, ↓reduceIte, Option.map_some]; rfl) (fail_ok (c := f.c) hm3) fun r2 H4 hq => hK' _ _ ?_
    subst hq
    obtain ⟨k1, k2⟩ := RcAt.set (e := none) hw3 hm3 (GArg1.same hf hw hS3) (hs.same hw hS3) (some f.c) hkl hsz
    have hl4 := k2.len
    have hm4' : (H3.put s (.cells (rsC n fv k (some f.c)) 0 true)).mine H.len = some ([.string ⟨#[]⟩, .int .i64 0, .bool false], 0) := by rw [mine_put_ne (by omega)]; exact hm4
    repeat' (first | (exfalso; omega) | refine zn ?_ | refine zK rfl ?_ | refine zP rfl ?_ | ((first | refine zm ?_ | skip); intro _; intros; simp (disch := first | exact zd | fail) only [↓yS, yT, ↓reduceIte, Nat.reduceEqDiff, Nat.reduceAdd, Nat.reduceMul, reduceCtorEq, Int.reduceToNat, g71, hm4', hz0, hrz]; first | (rename_i K k; refine yC (k _ _ ?_); clear k K) | (rename_i A B C D a b c d; (first | refine zX (a ?_) | refine zY (b ?_) | refine zZ (fun hc => c ?_) (fun hc => d ?_)) <;> clear a b c d A B C D <;> try simp only [yL] at hc)) | (refine yA ?_; intro A a; simp only [↓yG, Nat.reduceEqDiff, ↓reduceIte, g71, hm4', hz0, hrz]; refine yB (a ?_); clear a A) | (refine yD ?_; simp only [gresults, ↓yG, Nat.reduceEqDiff, ↓reduceIte, Option.bind_some, gld_1, gld_n, g71, hm4', hz0, hrz]; refine ⟨_, rfl, ?_⟩; simp only [gone]) | refine zA ?_ | refine zB ?_ | refine zF ?_)
    generalize H3.put s (.cells (rsC n fv k (some f.c)) 0 true) = H4 at *
    have hB5 : But (fun j => j = H.len) H4 (H4.put H.len (.cells [.string ⟨#[]⟩, .int .i64 0, .bool false] 0 true)) := (But.refl (S := fun j => j = H.len) k2.wf).put rfl (by omega) _
    have hBF := ((But.of (S := fun j => j = s) hS3).trans k2).putN (i := H.len) (Nat.le_refl _) (by omega) (.cells [.string ⟨#[]⟩, .int .i64 0, .bool false] 0 true)
    refine hPost _ _ ?_
    simp only [tkF, if_pos hk, hfk, if_neg hfq]
    exact ⟨⟨⟨[], 0, false⟩, rfl, rfl⟩, k1.but k2.wf hB5 hnes (mine_no hm4' (by decide)), hBF⟩
theorem newF {H : GHeap} (hw : H.wf) (o : GObj) : Same H ((H.add (some (.cells [.string ⟨#[]⟩, .int .i64 0, .bool false] 0 true))).put H.len o) := (Same.refl hw).new _ _
theorem rword_take {H : GHeap} (hw : H.wf) {s n k : Nat} {L : List Fd} {e : Option Nat} (h : RcAt H s n L k e) :
    ∃ r H', gev G 44 [ptr s] H = some (r, H') ∧ (r = .string (strB (tkF L false k e).1) ∧ RcAt H' s n L (tkF L false k e).2.2.1 (tkF L false k e).2.2.2 ∧ But (fun j => j = s) H H') := by
  refine gev_GW (f := 44) rfl fun Post hPost => ?_
  simp only [frameOf, Nat.reduceAdd]
  repeat' (first | (exfalso; omega) | refine zn ?_ | refine zK rfl ?_ | refine zP rfl ?_ | ((first | refine zm ?_ | skip); intro _; intros; simp (disch := first | exact zd | fail) only [↓yS, yT, ↓reduceIte, Nat.reduceEqDiff, Nat.reduceAdd, Nat.reduceMul, reduceCtorEq, Int.reduceToNat, g44]; first | (rename_i K k; refine yC (k _ _ ?_); clear k K) | (rename_i A B C D a b c d; (first | refine zX (a ?_) | refine zY (b ?_) | refine zZ (fun hc => c ?_) (fun hc => d ?_)) <;> clear a b c d A B C D <;> try simp only [yL] at hc)) | (refine yA ?_; intro A a; simp only [↓yG, Nat.reduceEqDiff, ↓reduceIte, g44]; refine yB (a ?_); clear a A) | (refine yD ?_; simp only [gresults, ↓yG, Nat.reduceEqDiff, ↓reduceIte, Option.bind_some, gld_1, gld_n, g44]; refine ⟨_, rfl, ?_⟩; simp only [gone]) | refine zA ?_ | refine zB ?_ | refine zF ?_)
  refine Gw_s fun K' hK' => G1_call (by simp only [gtarget, ↓GArg.ev, ↓evs, ↓Tr.get_set, Nat.reduceEqDiff, if_true, if_false, ↓reduceIte, Option.map_some]; rfl) (rtake_ok hw h _) fun r1 H1 hq => hK' _ _ ?_
  obtain ⟨⟨f, rfl, hft⟩, h1, h2⟩ := hq
  have hgf := gsetn_fd (f := f)
  have hw1 := h2.wf
  have hlim1 := hw1.1
  have fd0 : (fdC f)[0]? = some (.string (strB f.t)) := rfl
  repeat' (first | (exfalso; omega) | refine zn ?_ | refine zK rfl ?_ | refine zP rfl ?_ | ((first | refine zm ?_ | skip); intro _; intros; simp (disch := first | exact zd | fail) only [↓yS, yT, ↓reduceIte, Nat.reduceEqDiff, Nat.reduceAdd, Nat.reduceMul, reduceCtorEq, Int.reduceToNat, g44, hgf, fd0]; first | (rename_i K k; refine yC (k _ _ ?_); clear k K) | (rename_i A B C D a b c d; (first | refine zX (a ?_) | refine zY (b ?_) | refine zZ (fun hc => c ?_) (fun hc => d ?_)) <;> clear a b c d A B C D <;> try simp only [yL] at hc)) | (refine yA ?_; intro A a; simp only [↓yG, Nat.reduceEqDiff, ↓reduceIte, g44, hgf, fd0]; refine yB (a ?_); clear a A) | (refine yD ?_; simp only [gresults, ↓yG, Nat.reduceEqDiff, ↓reduceIte, Option.bind_some, gld_1, gld_n, g44, hgf, fd0]; refine ⟨_, rfl, ?_⟩; simp only [gone]) | refine zA ?_ | refine zB ?_ | refine zF ?_)
  rw [hft]
  exact hPost _ _ ⟨rfl, h1.same hw1 (newF hw1 _), h2.trans (But.of (newF hw1 _))⟩
theorem rquoted_take {H : GHeap} (hw : H.wf) {s n k : Nat} {L : List Fd} {e : Option Nat} (h : RcAt H s n L k e) :
    ∃ r H', gev G 72 [ptr s] H = some (r, H') ∧ (r = .string (strB (tkF L true k e).1) ∧ RcAt H' s n L (tkF L true k e).2.2.1 (tkF L true k e).2.2.2 ∧ But (fun j => j = s) H H') := by
  refine gev_GW (f := 72) rfl fun Post hPost => ?_
  simp only [frameOf, Nat.reduceAdd]
  repeat' (first | (exfalso; omega) | refine zn ?_ | refine zK rfl ?_ | refine zP rfl ?_ | ((first | refine zm ?_ | skip); intro _; intros; simp (disch := first | exact zd | fail) only [↓yS, yT, ↓reduceIte, Nat.reduceEqDiff, Nat.reduceAdd, Nat.reduceMul, reduceCtorEq, Int.reduceToNat, g72]; first | (rename_i K k; refine yC (k _ _ ?_); clear k K) | (rename_i A B C D a b c d; (first | refine zX (a ?_) | refine zY (b ?_) | refine zZ (fun hc => c ?_) (fun hc => d ?_)) <;> clear a b c d A B C D <;> try simp only [yL] at hc)) | (refine yA ?_; intro A a; simp only [↓yG, Nat.reduceEqDiff, ↓reduceIte, g72]; refine yB (a ?_); clear a A) | (refine yD ?_; simp only [gresults, ↓yG, Nat.reduceEqDiff, ↓reduceIte, Option.bind_some, gld_1, gld_n, g72]; refine ⟨_, rfl, ?_⟩; simp only [gone]) | refine zA ?_ | refine zB ?_ | refine zF ?_)
  refine Gw_s fun K' hK' => G1_call (by simp only [gtarget, ↓GArg.ev, ↓evs, ↓Tr.get_set, Nat.reduceEqDiff, if_true, if_false, ↓reduceIte, Option.map_some]; rfl) (rtake_ok hw h _) fun r1 H1 hq => hK' _ _ ?_
  obtain ⟨⟨f, rfl, hft⟩, h1, h2⟩ := hq
  have hgf := gsetn_fd (f := f)
  have hw1 := h2.wf
  have hlim1 := hw1.1
  have fd0 : (fdC f)[0]? = some (.string (strB f.t)) := rfl
  repeat' (first | (exfalso; omega) | refine zn ?_ | refine zK rfl ?_ | refine zP rfl ?_ | ((first | refine zm ?_ | skip); intro _; intros; simp (disch := first | exact zd | fail) only [↓yS, yT, ↓reduceIte, Nat.reduceEqDiff, Nat.reduceAdd, Nat.reduceMul, reduceCtorEq, Int.reduceToNat, g72, hgf, fd0]; first | (rename_i K k; refine yC (k _ _ ?_); clear k K) | (rename_i A B C D a b c d; (first | refine zX (a ?_) | refine zY (b ?_) | refine zZ (fun hc => c ?_) (fun hc => d ?_)) <;> clear a b c d A B C D <;> try simp only [yL] at hc)) | (refine yA ?_; intro A a; simp only [↓yG, Nat.reduceEqDiff, ↓reduceIte, g72, hgf, fd0]; refine yB (a ?_); clear a A) | (refine yD ?_; simp only [gresults, ↓yG, Nat.reduceEqDiff, ↓reduceIte, Option.bind_some, gld_1, gld_n, g72, hgf, fd0]; refine ⟨_, rfl, ?_⟩; simp only [gone]) | refine zA ?_ | refine zB ?_ | refine zF ?_)
  rw [hft]
  exact hPost _ _ ⟨rfl, h1.same hw1 (newF hw1 _), h2.trans (But.of (newF hw1 _))⟩
theorem rend_ok {H : GHeap} (hw : H.wf) {s n k : Nat} {L : List Fd} {e : Option Nat} (h : RcAt H s n L k e) (hd : e = none → k = L.length) :
    ∃ r H', gev G 46 [ptr s] H = some (r, H') ∧ ((match e with | some c => r = .tuple #[dgV ⟨n, c, 4⟩, .bool true] | none => r = .tuple #[dgV ⟨0, 0, 0⟩, .bool false]) ∧ Same H H') := by
  refine gev_GW (f := 46) rfl fun Post hPost => ?_
  obtain ⟨fv, hm, hf, hs⟩ := h.ex
  have hsz := h.sz
  have hlim := hw.1
  have hlt := mine_lt hw hm
  have hnes : H.len ≠ s := by omega
  have hnes2 : s ≠ H.len := by omega
  have hS : ∀ C : List Value, Same H ((H.add (some (.cells [.int .i64 0, .int .i64 0, .int .i64 0] 0 true))).put H.len (.cells C 0 true)) := fun C => (Same.refl hw).new _ _
  have hS1 : Same H (H.add (some (.cells [.int .i64 0, .int .i64 0, .int .i64 0] 0 true))) := (Same.refl hw).add _
  have hz : ∀ a b c : Int, gsetn [.int .i64 0, .int .i64 0, .int .i64 0] 0 3 (.agg #[.int .i64 a, .int .i64 b, .int .i64 c]) = some [.int .i64 a, .int .i64 b, .int .i64 c] := fun a b c => gsetn_all rfl rfl (by
    show ([.int .i64 a, .int .i64 b, .int .i64 c] : List Value).all flatV = true
    simp [flatV])
  have hrn : ∀ a b c : Int, ((H.add (some (.cells [.int .i64 0, .int .i64 0, .int .i64 0] 0 true))).put H.len (.cells [.int .i64 a, .int .i64 b, .int .i64 c] 0 true)).rdn H.len 0 3 = some (.agg #[.int .i64 a, .int .i64 b, .int .i64 c]) := fun a b c => rdn_put_all rfl
  cases e with
  | some c =>
    have h3 : H.rd s 3 = some (.int .i64 4) := mine_rd hm
    have h4 : H.rd s 4 = some (.int .i64 c) := mine_rd hm
    have h0 : H.rd s 0 = some (.int .i64 n) := mine_rd hm
    simp only [frameOf, Nat.reduceAdd]
    repeat' (first | (exfalso; omega) | refine zn ?_ | refine zK rfl ?_ | refine zP rfl ?_ | ((first | refine zm ?_ | skip); intro _; intros; simp (disch := first | exact zd | fail) only [↓yS, yT, ↓reduceIte, Nat.reduceEqDiff, Nat.reduceAdd, Nat.reduceMul, reduceCtorEq, Int.reduceToNat, g46, ptr, h3, h4, h0, hz, hrn]; first | (rename_i K k; refine yC (k _ _ ?_); clear k K) | (rename_i A B C D a b c d; (first | refine zX (a ?_) | refine zY (b ?_) | refine zZ (fun hc => c ?_) (fun hc => d ?_)) <;> clear a b c d A B C D <;> try simp only [yL] at hc)) | (refine yA ?_; intro A a; simp only [↓yG, Nat.reduceEqDiff, ↓reduceIte, g46, ptr, h3, h4, h0, hz, hrn]; refine yB (a ?_); clear a A) | (refine yD ?_; simp only [gresults, ↓yG, Nat.reduceEqDiff, ↓reduceIte, Option.bind_some, gld_1, gld_n, g46, ptr, h3, h4, h0, hz, hrn]; refine ⟨_, rfl, ?_⟩; simp only [gone]) | refine zA ?_ | refine zB ?_ | refine zF ?_)
    exact hPost _ _ ⟨rfl, hS _⟩
  | none =>
    have hk := hd rfl
    subst hk
    have h3 : H.rd s 3 = some (.int .i64 0) := mine_rd hm
    simp only [frameOf, Nat.reduceAdd]
    repeat' (first | (exfalso; omega) | refine zn ?_ | refine zK rfl ?_ | refine zP rfl ?_ | ((first | refine zm ?_ | skip); intro _; intros; simp (disch := first | exact zd | fail) only [↓yS, yT, ↓reduceIte, Nat.reduceEqDiff, Nat.reduceAdd, Nat.reduceMul, reduceCtorEq, Int.reduceToNat, g46, ptr, h3]; first | (rename_i K k; refine yC (k _ _ ?_); clear k K) | (rename_i A B C D a b c d; (first | refine zX (a ?_) | refine zY (b ?_) | refine zZ (fun hc => c ?_) (fun hc => d ?_)) <;> clear a b c d A B C D <;> try simp only [yL] at hc)) | (refine yA ?_; intro A a; simp only [↓yG, Nat.reduceEqDiff, ↓reduceIte, g46, ptr, h3]; refine yB (a ?_); clear a A) | (refine yD ?_; simp only [gresults, ↓yG, Nat.reduceEqDiff, ↓reduceIte, Option.bind_some, gld_1, gld_n, g46, ptr, h3]; refine ⟨_, rfl, ?_⟩; simp only [gone]) | refine zA ?_ | refine zB ?_ | refine zF ?_)
    refine Gw_s fun K' hK' => G1_call (by simp only [gtarget, ↓GArg.ev, ↓evs, ↓Tr.get_set, Nat.reduceEqDiff, if_true, if_false, ↓reduceIte, Option.map_some]; rfl) (rleft_ok (h.same hw hS1)) fun r2 H2 hq => hK' _ _ ?_
    obtain ⟨rfl, rfl⟩ := hq
    rw [if_pos rfl, Nat.sub_self]
    repeat' (first | (exfalso; omega) | refine zn ?_ | refine zK rfl ?_ | refine zP rfl ?_ | ((first | refine zm ?_ | skip); intro _; intros; simp (disch := first | exact zd | fail) only [↓yS, yT, ↓reduceIte, Nat.reduceEqDiff, Nat.reduceAdd, Nat.reduceMul, reduceCtorEq, Int.reduceToNat, g46, hz, hrn]; first | (rename_i K k; refine yC (k _ _ ?_); clear k K) | (rename_i A B C D a b c d; (first | refine zX (a ?_) | refine zY (b ?_) | refine zZ (fun hc => c ?_) (fun hc => d ?_)) <;> clear a b c d A B C D <;> try simp only [yL] at hc)) | (refine yA ?_; intro A a; simp only [↓yG, Nat.reduceEqDiff, ↓reduceIte, g46, hz, hrn]; refine yB (a ?_); clear a A) | (refine yD ?_; simp only [gresults, ↓yG, Nat.reduceEqDiff, ↓reduceIte, Option.bind_some, gld_1, gld_n, g46, hz, hrn]; refine ⟨_, rfl, ?_⟩; simp only [gone]) | refine zA ?_ | refine zB ?_ | refine zF ?_)
    exact hPost _ _ ⟨rfl, hS _⟩
theorem rScan_ok {H : GHeap} (hw : H.wf) {n : Nat} {fv : Value} {L : List Fd} (hf : FRd H fv L) (hu : U3 H fv) (hz : L.length ≤ 16777216) :
    ∃ r H', gev G 43 [.agg #[.int .i64 n, fv]] H = some (r, H') ∧ ∃ s, r = ptr s ∧ RcAt H' s n L 0 none ∧ Same H H' ∧ H.len ≤ s := by
  refine gev_GW (f := 43) rfl fun Post hPost => ?_
  have hlim := hw.1
  have hff := hf.flat
  have hl := lv_flat (n := n) hff
  have hc : (Value.agg #[.int .i64 n, fv]).cells.toList = [.int .i64 n, fv] := rfl
  have hS1 := (Same.refl hw).add (.cells [.int .i64 n, fv] 0 true)
  have hr : (H.add (some (.cells [.int .i64 n, fv] 0 true))).rdn H.len 0 2 = some (.agg #[.int .i64 n, fv]) := by
    unfold GHeap.rdn
    rw [cs_add_eq rfl]; rfl
  have hb : fillL [.int .i64 0, .slice none 0 0, .int .i64 0, .int .i64 0, .int .i64 0] [(0, 2, .agg #[.int .i64 n, fv])] = some (rsC n fv 0 none) := by
    simp [fillL, Value.cells, flatV_int, hff, rsC]
  have hl5 : (Value.agg (rsC n fv 0 none).toArray).cells.all flatV = true := by
    rw [← Array.all_toList]
    show ([.int .i64 n, fv, .int .i64 0, .int .i64 0, .int .i64 0] : List Value).all flatV = true
    simp only [List.all_cons, List.all_nil, hff]; rfl
  have hc5 : (Value.agg (rsC n fv 0 none).toArray).cells.toList = rsC n fv 0 none := rfl
  simp only [frameOf, Nat.reduceAdd]
  repeat' (first | (exfalso; omega) | refine zn ?_ | refine zK rfl ?_ | refine zP rfl ?_ | ((first | refine zm ?_ | skip); intro _; intros; simp (disch := first | exact zd | fail) only [↓yS, yT, ↓reduceIte, Nat.reduceEqDiff, Nat.reduceAdd, Nat.reduceMul, reduceCtorEq, Int.reduceToNat, g43, hl, hc]; first | (rename_i K k; refine yC (k _ _ ?_); clear k K) | (rename_i A B C D a b c d; (first | refine zX (a ?_) | refine zY (b ?_) | refine zZ (fun hc => c ?_) (fun hc => d ?_)) <;> clear a b c d A B C D <;> try simp only [yL] at hc)) | (refine yA ?_; intro A a; simp only [↓yG, Nat.reduceEqDiff, ↓reduceIte, g43, hl, hc]; refine yB (a ?_); clear a A) | (refine yD ?_; simp only [gresults, ↓yG, Nat.reduceEqDiff, ↓reduceIte, Option.bind_some, gld_1, gld_n, g43, hl, hc]; refine ⟨_, rfl, ?_⟩; simp only [gone]) | refine zA ?_ | refine zB ?_ | refine zF ?_)
  repeat' (first | (exfalso; omega) | refine zn ?_ | refine zK rfl ?_ | refine zP rfl ?_ | ((first | refine zm ?_ | skip); intro _; intros; simp (disch := first | exact zd | fail) only [↓yS, yT, ↓reduceIte, Nat.reduceEqDiff, Nat.reduceAdd, Nat.reduceMul, reduceCtorEq, Int.reduceToNat, g43, hr, hb, hl5, hc5]; first | (rename_i K k; refine yC (k _ _ ?_); clear k K) | (rename_i A B C D a b c d; (first | refine zX (a ?_) | refine zY (b ?_) | refine zZ (fun hc => c ?_) (fun hc => d ?_)) <;> clear a b c d A B C D <;> try simp only [yL] at hc)) | (refine yA ?_; intro A a; simp only [↓yG, Nat.reduceEqDiff, ↓reduceIte, g43, hr, hb, hl5, hc5]; refine yB (a ?_); clear a A) | (refine yD ?_; simp only [gresults, ↓yG, Nat.reduceEqDiff, ↓reduceIte, Option.bind_some, gld_1, gld_n, g43, hr, hb, hl5, hc5]; refine ⟨_, rfl, ?_⟩; simp only [gone]) | refine zA ?_ | refine zB ?_ | refine zF ?_)
  have hS3 := hS1.add (.cells (rsC n fv 0 none) 0 true)
  refine hPost _ _ ⟨H.len + 1, ?_, ⟨⟨fv, mine_add_eq (by simp only [len_add]) (by simp only [lim_add]; omega), GArg1.same hf hw hS3, hu.same hw hS3⟩, Nat.zero_le _, hz⟩, hS3, by omega⟩
  first | rfl | (simp only [len_add]; rfl)
theorem unit_no' {H : GHeap} {a : Nat} {s u n : Nat} {H0 : GHeap} {v : Value} {xs : List Value} (h : OS s u H0 H v n xs) {cs : List Value} {u' : Nat} (hm : H.mine a = some (cs, u')) (hu : u ≠ u') : ¬ a ∈ idOf v := fun ha => by
  have h1 := (h.ids ha).2.2
  rw [hm] at h1
  simp only [Option.some.injEq, Prod.mk.injEq] at h1
  exact hu h1.2.symm
theorem RcAt.mine {H : GHeap} {s n k : Nat} {L : List Fd} {e : Option Nat} (h : RcAt H s n L k e) : ∃ cs, H.mine s = some (cs, 0) := by
  obtain ⟨fv, hm, _⟩ := h.ex; exact ⟨_, hm⟩
set_option maxHeartbeats 2000000 in
theorem rTake_ok {H0 H : GHeap} (hS : Same H0 H) {s n : Nat} {L : List Fd} (h : RcAt H s n L 1 none) (hs0 : H0.len ≤ s) (hL : smL L) (h1 : 1 ≤ L.length) :
    ∃ r H', gev G 45 [ptr s] H = some (r, H') ∧ ∃ (t : List UInt8) (g : List (List UInt8)) (gv : Value) (k : Nat) (e : Option Nat), r = .agg #[.string (strB t), gv] ∧ OS 1 1 H0 H' gv g.length (strs g) ∧ RcAt H' s n L k e ∧ PI L k e t g ∧ (e = none → k = L.length) := by
  refine gev_GW (f := 45) rfl fun Post hPost => ?_
  have hw := hS.wf
  have hlim := hw.1
  have hlen0 := hS.len
  have hS1 : Same H (H.add (some (.cells [.string ⟨#[]⟩, .slice none 0 0] 0 true))) := (Same.refl hw).add _
  have hl1 : (H.add (some (.cells [.string ⟨#[]⟩, .slice none 0 0] 0 true))).len = H.len + 1 := len_add
  have hm1 : (H.add (some (.cells [.string ⟨#[]⟩, .slice none 0 0] 0 true))).mine H.len = some ([.string ⟨#[]⟩, .slice none 0 0], 0) := mine_add_eq rfl hlim
  obtain ⟨cs0, hms0⟩ := h.mine
  have hlts := mine_lt hw hms0
  have hsc1 := h.same hw hS1
  have hw1 := hS1.wf
  have hS01 := hS.trans hS1
  simp only [frameOf, Nat.reduceAdd]
  repeat' (first | (exfalso; omega) | refine zn ?_ | refine zK rfl ?_ | refine zP rfl ?_ | ((first | refine zm ?_ | skip); intro _; intros; simp (disch := first | exact zd | fail) only [↓yS, yT, ↓reduceIte, Nat.reduceEqDiff, Nat.reduceAdd, Nat.reduceMul, reduceCtorEq, Int.reduceToNat, g45]; first | (rename_i K k; refine yC (k _ _ ?_); clear k K) | (rename_i A B C D a b c d; (first | refine zX (a ?_) | refine zY (b ?_) | refine zZ (fun hc => c ?_) (fun hc => d ?_)) <;> clear a b c d A B C D <;> try simp only [yL] at hc)) | (refine yA ?_; intro A a; simp only [↓yG, Nat.reduceEqDiff, ↓reduceIte, g45]; refine yB (a ?_); clear a A) | (refine yD ?_; simp only [gresults, ↓yG, Nat.reduceEqDiff, ↓reduceIte, Option.bind_some, gld_1, gld_n, g45]; refine ⟨_, rfl, ?_⟩; simp only [gone]) | refine zA ?_ | refine zB ?_ | refine zF ?_)
  generalize H.add (some (.cells [.string ⟨#[]⟩, .slice none 0 0] 0 true)) = H1 at *
  refine Gw_s fun K' hK' => G1_call (by simp only [gtarget, ↓GArg.ev, ↓evs, ↓Tr.get_set, Nat.reduceEqDiff, if_true, if_false, ↓reduceIte, Option.map_some]; rfl) (rquoted_take hw1 hsc1) fun r2 H2 hq => hK' _ _ ?_
  obtain ⟨rfl, hsc2, hB2⟩ := hq
  have hPI := PI.start hL h1
  have hS2 := hB2.same hS01 (fun k hk e => by omega)
  have hw2 := hS2.wf
  have hl2 := hB2.len
  have hm2 : H2.mine H.len = some ([.string ⟨#[]⟩, .slice none 0 0], 0) := by rw [hB2.mine (by omega) (by omega)]; exact hm1
  generalize (tkF L true 1 none).1 = t1 at *
  generalize (tkF L true 1 none).2.2.1 = k1 at *
  generalize (tkF L true 1 none).2.2.2 = e1 at *
  have hlim2 := hw2.1
  have hbt : fillL [.string ⟨#[]⟩, .slice none 0 0] [(0, 1, .string (strB t1))] = some [.string (strB t1), .slice none 0 0] := rfl
  have hgt : gsetn [.string ⟨#[]⟩, .slice none 0 0] 0 2 (.agg #[.string (strB t1), .slice none 0 0]) = some [.string (strB t1), .slice none 0 0] := gsetn_all rfl rfl (by simp [flatV])
  have hSn : Same H2 ((H2.add (some (.cells [.string ⟨#[]⟩, .slice none 0 0] 0 true))).put H2.len (.cells [.string (strB t1), .slice none 0 0] 0 true)) := (Same.refl hw2).new _ _
  have hm3 : ((H2.add (some (.cells [.string ⟨#[]⟩, .slice none 0 0] 0 true))).put H2.len (.cells [.string (strB t1), .slice none 0 0] 0 true)).mine H2.len = some ([.string (strB t1), .slice none 0 0], 0) := mine_put_same (by simp only [lim_add]; omega)
  have hl3 : ((H2.add (some (.cells [.string ⟨#[]⟩, .slice none 0 0] 0 true))).put H2.len (.cells [.string (strB t1), .slice none 0 0] 0 true)).len = H2.len + 1 := by simp only [len_put, len_add]
  repeat' (first | (exfalso; omega) | refine zn ?_ | refine zK rfl ?_ | refine zP rfl ?_ | ((first | refine zm ?_ | skip); intro _; intros; simp (disch := first | exact zd | fail) only [↓yS, yT, ↓reduceIte, Nat.reduceEqDiff, Nat.reduceAdd, Nat.reduceMul, reduceCtorEq, Int.reduceToNat, g45, hbt, hgt]; first | (rename_i K k; refine yC (k _ _ ?_); clear k K) | (rename_i A B C D a b c d; (first | refine zX (a ?_) | refine zY (b ?_) | refine zZ (fun hc => c ?_) (fun hc => d ?_)) <;> clear a b c d A B C D <;> try simp only [yL] at hc)) | (refine yA ?_; intro A a; simp only [↓yG, Nat.reduceEqDiff, ↓reduceIte, g45, hbt, hgt]; refine yB (a ?_); clear a A) | (refine yD ?_; simp only [gresults, ↓yG, Nat.reduceEqDiff, ↓reduceIte, Option.bind_some, gld_1, gld_n, g45, hbt, hgt]; refine ⟨_, rfl, ?_⟩; simp only [gone]) | refine zA ?_ | refine zB ?_ | refine zF ?_)
  generalize ((H2.add (some (.cells [.string ⟨#[]⟩, .slice none 0 0] 0 true))).put H2.len (.cells [.string (strB t1), .slice none 0 0] 0 true)) = H3 at *
  have hsc3 := hsc2.same hw2 hSn
  have hmT3 : H3.mine H.len = some ([.string ⟨#[]⟩, .slice none 0 0], 0) := by rw [hSn.mine (by omega)]; exact hm2
  have hS3 := hS2.trans hSn
  have hO3 : OS 1 1 H0 H3 (.slice none 0 0) 0 (strs []) := OS.nil hS3
  have ha3 : H.len < H2.len := by omega
  generalize H2.len = a3 at *
  have hg0 : (0 : Nat) = ([] : List (List UInt8)).length := rfl
  obtain ⟨fvs, hms, hfs, has⟩ := hsc3.ex
  refine GW_hide (v := ptr s) (i := s) (by simp only [↓GArg.ev, ↓yG, Nat.reduceEqDiff, ↓reduceIte]) rfl (mine_lt hS3.wf hms) hms ?_
  have hobs := (mine_obj hms).2
  have hrdd : (H3.put s (.dead 0)).rd a3 1 = some (.slice none 0 0) := by rw [rd_put_ne (by omega)]; exact mine_rd hm3
  repeat' (first | (exfalso; omega) | refine zn ?_ | refine zK rfl ?_ | refine zP rfl ?_ | ((first | refine zm ?_ | skip); intro _; intros; simp (disch := first | exact zd | fail) only [↓yS, yT, ↓reduceIte, Nat.reduceEqDiff, Nat.reduceAdd, Nat.reduceMul, reduceCtorEq, Int.reduceToNat, g45, ptr, hrdd]; first | (rename_i K k; refine yC (k _ _ ?_); clear k K) | (rename_i A B C D a b c d; (first | refine zX (a ?_) | refine zY (b ?_) | refine zZ (fun hc => c ?_) (fun hc => d ?_)) <;> clear a b c d A B C D <;> try simp only [yL] at hc)) | (refine yA ?_; intro A a; simp only [↓yG, Nat.reduceEqDiff, ↓reduceIte, g45, ptr, hrdd]; refine yB (a ?_); clear a A) | (refine yD ?_; simp only [gresults, ↓yG, Nat.reduceEqDiff, ↓reduceIte, Option.bind_some, gld_1, gld_n, g45, ptr, hrdd]; refine ⟨_, rfl, ?_⟩; simp only [gone]) | refine zA ?_ | refine zB ?_ | refine zF ?_)
  have hput : (H3.put s (.dead 0)).put s (.cells (rsC n fvs k1 e1) 0 true) = H3 := by rw [put_put]; exact put_self hobs
  rw [hput]
  refine Gp_c (by simp only [gtarget, ↓GArg.ev, ↓evs, ↓Tr.get_set, Nat.reduceEqDiff, if_true, if_false, ↓reduceIte, Option.map_some]; rfl) (rquoted_take hS3.wf hsc3) ?_ fun r9 H9 hq9 => ?_
  · exact fun v H' h i hi hni => h.2.2.obj i hi fun e => hni (by simp [e])
  obtain ⟨rfl, hsc9, hB9⟩ := hq9
  have hS9 := hB9.same hS3 (fun q hq e => by omega)
  have hO9 := hO3.but hB9 (fun q hq e => by omega) (fun a ha e => unit_no' hO3 (a := s) hms (by decide) (e ▸ ha))
  have hmA9 : H9.mine H.len = some ([.string ⟨#[]⟩, .slice none 0 0], 0) := by rw [hB9.mine (mine_lt hS3.wf hmT3) (by omega)]; exact hmT3
  have hm9 : H9.mine a3 = some ([.string (strB t1), .slice none 0 0], 0) := by rw [hB9.mine (mine_lt hS3.wf hm3) (by omega)]; exact hm3
  have hPI9 := hPI
  clear hPI
  generalize (tkF L true k1 e1).1 = tx at *
  generalize (tkF L true k1 e1).2.2.1 = k9 at *
  generalize (tkF L true k1 e1).2.2.2 = e9 at *
  refine Gp_t (by simp [aims, target]) fun K' hK' => ?_
  simp (disch := first | exact zd | fail) only [↓yS, yT, ↓reduceIte, Nat.reduceEqDiff, Nat.reduceAdd, Nat.reduceMul, reduceCtorEq, Int.reduceToNat]
  refine G1_go (hK' _ _ ?_)
  clear hK' K'
  have hrow9 : (List.take 0 (zeros [.string ⟨#[]⟩] 1) ++ (Value.string (strB tx)).cells.toList ++ List.drop 1 (zeros [.string ⟨#[]⟩] 1)) = strs [tx] := rfl
  rw [hrow9]
  obtain ⟨v10, H10, e10, hO10, hB10⟩ := hO9.app1 (b := 16) (by decide) (by decide) (news := strs [tx]) rfl (by omega) (by omega)
  refine Gp_s fun K' hK' => ?_
  simp (disch := first | exact zd | fail) only [↓yS, yT, ↓reduceIte, Nat.reduceEqDiff, Nat.reduceAdd, Nat.reduceMul, reduceCtorEq, Int.reduceToNat]
  refine G1_eq e10 (hK' _ _ ?_)
  clear hK' K' e10
  have hS10 := hO10.same
  have hw10 := hS10.wf
  have hmA10 : H10.mine H.len = some ([.string ⟨#[]⟩, .slice none 0 0], 0) := by rw [hB10.mine (mine_lt hS9.wf hmA9) (unit_no' hO9 hmA9 (by decide))]; exact hmA9
  have hm10 : H10.mine a3 = some ([.string (strB t1), .slice none 0 0], 0) := by rw [hB10.mine (mine_lt hS9.wf hm9) (unit_no' hO9 hm9 (by decide))]; exact hm9
  have hsc10 : RcAt H10 s n L k9 e9 := by
    obtain ⟨cs9, hmw⟩ := hsc9.mine
    exact hsc9.but hS9.wf hB10 (unit_no' hO9 hmw (by decide)) fun a cs hm => unit_no' hO9 hm (by decide)
  have hlt10 := mine_lt hw10 hm10
  have hlm10 := (mine_obj hm10).1
  have hBs : But (fun q => q = a3) H10 (H10.put a3 (.cells [.string (strB t1), v10] 0 true)) := (But.refl (S := fun q => q = a3) hw10).put rfl hlt10 _
  have hsc11 : RcAt (H10.put a3 (.cells [.string (strB t1), v10] 0 true)) s n L k9 e9 := hsc10.but hw10 hBs (by omega) (mine_no hm10 (by decide))
  have hmA11 : (H10.put a3 (.cells [.string (strB t1), v10] 0 true)).mine H.len = some ([.string ⟨#[]⟩, .slice none 0 0], 0) := by rw [hBs.mine (mine_lt hw10 hmA10) (by omega)]; exact hmA10
  have hm13_11 : (H10.put a3 (.cells [.string (strB t1), v10] 0 true)).mine a3 = some ([.string (strB t1), v10], 0) := mine_put_same hlm10
  have hO11 : OS 1 1 H0 (H10.put a3 (.cells [.string (strB t1), v10] 0 true)) v10 (([] : List (List UInt8)) ++ [tx]).length (strs (([] : List (List UInt8)) ++ [tx])) := by
    have h1 : strs (([] : List (List UInt8)) ++ [tx]) = strs ([] : List (List UInt8)) ++ strs [tx] := by simp [strs]
    rw [h1, List.length_append]
    exact hO10.but hBs (fun q hq e => by omega) fun a ha e => unit_no' hO10 hm10 (by decide) (e ▸ ha)
  repeat' (first | (exfalso; omega) | refine zn ?_ | refine zK rfl ?_ | refine zP rfl ?_ | ((first | refine zm ?_ | skip); intro _; intros; simp (disch := first | exact zd | fail) only [↓yS, yT, ↓reduceIte, Nat.reduceEqDiff, Nat.reduceAdd, Nat.reduceMul, reduceCtorEq, Int.reduceToNat, g45]; first | (rename_i K k; refine yC (k _ _ ?_); clear k K) | (rename_i A B C D a b c d; (first | refine zX (a ?_) | refine zY (b ?_) | refine zZ (fun hc => c ?_) (fun hc => d ?_)) <;> clear a b c d A B C D <;> try simp only [yL] at hc)) | (refine yA ?_; intro A a; simp only [↓yG, Nat.reduceEqDiff, ↓reduceIte, g45]; refine yB (a ?_); clear a A) | (refine yD ?_; simp only [gresults, ↓yG, Nat.reduceEqDiff, ↓reduceIte, Option.bind_some, gld_1, gld_n, g45]; refine ⟨_, rfl, ?_⟩; simp only [gone]) | refine zA ?_ | refine zB ?_ | refine zF ?_)
  refine Gp_0 fun K' hK' => ?_
  have hgs : gset [.string (strB t1), .slice none 0 0] 1 v10 = some [.string (strB t1), v10] := by simp [gset, hO10.flat]
  simp (disch := first | exact zd | fail) only [↓yS, yT, ↓reduceIte, Nat.reduceEqDiff, Nat.reduceAdd, Nat.reduceMul, reduceCtorEq, Int.reduceToNat, hm10, hgs]
  refine G1_go (hK' _ _ ?_)
  clear hK' K'
  repeat' (first | (exfalso; omega) | refine zn ?_ | refine zK rfl ?_ | refine zP rfl ?_ | ((first | refine zm ?_ | skip); intro _; intros; simp (disch := first | exact zd | fail) only [↓yS, yT, ↓reduceIte, Nat.reduceEqDiff, Nat.reduceAdd, Nat.reduceMul, reduceCtorEq, Int.reduceToNat, g45]; first | (rename_i K k; refine yC (k _ _ ?_); clear k K) | (rename_i A B C D a b c d; (first | refine zX (a ?_) | refine zY (b ?_) | refine zZ (fun hc => c ?_) (fun hc => d ?_)) <;> clear a b c d A B C D <;> try simp only [yL] at hc)) | (refine yA ?_; intro A a; simp only [↓yG, Nat.reduceEqDiff, ↓reduceIte, g45]; refine yB (a ?_); clear a A) | (refine yD ?_; simp only [gresults, ↓yG, Nat.reduceEqDiff, ↓reduceIte, Option.bind_some, gld_1, gld_n, g45]; refine ⟨_, rfl, ?_⟩; simp only [gone]) | refine zA ?_ | refine zB ?_ | refine zF ?_)
  refine GW_loop (fun m fr H7 => ∃ (k : Nat) (e : Option Nat) (g : List (List UInt8)) (gv : Value), m = (if e = none then L.length - k + 1 else 0) ∧ fr.get 0 = some (ptr s) ∧ fr.get 2 = some (ptr H.len) ∧ fr.get 3 = some (ptr a3) ∧ RcAt H7 s n L k e ∧ H7.mine H.len = some ([.string ⟨#[]⟩, .slice none 0 0], 0) ∧ H7.mine a3 = some ([.string (strB t1), gv], 0) ∧ OS 1 1 H0 H7 gv g.length (strs g) ∧ PI L k e t1 g) ?_ (if e9 = none then L.length - k9 + 1 else 0) ?_
  rotate_left
  · refine ⟨k9, e9, [tx], v10, rfl, ?_⟩
    simp only [↓yG, Nat.reduceEqDiff, ↓reduceIte, Int.natCast_add, Int.cast_ofNat_Int, Int.natCast_zero, true_and, and_true, Option.some.injEq, Value.int.injEq]
    exact ⟨hsc11, hmA11, hm13_11, hO11, hPI9⟩
  rintro m fr H7 ⟨k, e, g, gv, rfl, f0, f2, f3, hsc7, hmT7, hm7, hO7, hPI7⟩ J2 hJ2
  clear hsc11 hmA11 hm13_11 hO11 hPI9
  have hS7 := hO7.same
  have hw7 := hS7.wf
  have hle7 := hsc7.le
  repeat' (first | (exfalso; omega) | refine zn ?_ | refine zK rfl ?_ | refine zP rfl ?_ | ((first | refine zm ?_ | skip); intro _; intros; simp (disch := first | exact zd | fail) only [↓yS, yT, ↓reduceIte, Nat.reduceEqDiff, Nat.reduceAdd, Nat.reduceMul, reduceCtorEq, Int.reduceToNat, g45, f0, f2, f3]; first | (rename_i K k; refine yC (k _ _ ?_); clear k K) | (rename_i A B C D a b c d; (first | refine zX (a ?_) | refine zY (b ?_) | refine zZ (fun hc => c ?_) (fun hc => d ?_)) <;> clear a b c d A B C D <;> try simp only [yL] at hc)) | (refine yA ?_; intro A a; simp only [↓yG, Nat.reduceEqDiff, ↓reduceIte, g45, f0, f2, f3]; refine yB (a ?_); clear a A) | (refine yD ?_; simp only [gresults, ↓yG, Nat.reduceEqDiff, ↓reduceIte, Option.bind_some, gld_1, gld_n, g45, f0, f2, f3]; refine ⟨_, rfl, ?_⟩; simp only [gone]) | refine zA ?_ | refine zB ?_ | refine zF ?_)
  refine Gw_s fun K' hK' => G1_call (by simp only [gtarget, ↓GArg.ev, ↓evs, ↓Tr.get_set, Nat.reduceEqDiff, if_true, if_false, ↓reduceIte, Option.map_some, f0, f2, f3]; rfl) (rleft_ok hsc7) fun r8 H8 hq8 => hK' _ _ ?_
  obtain ⟨rfl, rfl⟩ := hq8
  by_cases hgo : e = none ∧ k < L.length
  · obtain ⟨rfl, hkl⟩ := hgo
    rw [if_pos rfl]
    obtain ⟨fw7, hmw7, _⟩ := hsc7.ex
    have hc7 : H8.rd s 3 = some (.int .i64 0) := mine_rd hmw7
    repeat' (first | (exfalso; omega) | refine zn ?_ | refine zK rfl ?_ | refine zP rfl ?_ | ((first | refine zm ?_ | skip); intro _; intros; simp (disch := first | exact zd | fail) only [↓yS, yT, ↓reduceIte, Nat.reduceEqDiff, Nat.reduceAdd, Nat.reduceMul, reduceCtorEq, Int.reduceToNat, g45, f0, f2, f3, ptr, hc7]; first | (rename_i K k; refine yC (k _ _ ?_); clear k K) | (rename_i A B C D a b c d; (first | refine zX (a ?_) | refine zY (b ?_) | refine zZ (fun hc => c ?_) (fun hc => d ?_)) <;> clear a b c d A B C D <;> try simp only [yL] at hc)) | (refine yA ?_; intro A a; simp only [↓yG, Nat.reduceEqDiff, ↓reduceIte, g45, f0, f2, f3, ptr, hc7]; refine yB (a ?_); clear a A) | (refine yD ?_; simp only [gresults, ↓yG, Nat.reduceEqDiff, ↓reduceIte, Option.bind_some, gld_1, gld_n, g45, f0, f2, f3, ptr, hc7]; refine ⟨_, rfl, ?_⟩; simp only [gone]) | refine zA ?_ | refine zB ?_ | refine zF ?_)
    have hPI9 := hPI7.step hL hkl
    have hdec : (if (tkF L true k none).2.2.2 = none then L.length - (tkF L true k none).2.2.1 + 1 else 0) < (if (none : Option Nat) = none then L.length - k + 1 else 0) := by
      rw [if_pos rfl]
      rcases tk_cases (Nat.le_of_lt hkl) with ⟨_, _, g3⟩ | ⟨c, g3, _⟩
      · rw [g3, if_pos rfl]; simp only; omega
      · rw [g3, if_neg (by simp)]; omega
    obtain ⟨fvs, hms, hfs, has⟩ := hsc7.ex
    refine GW_hide (v := ptr s) (i := s) (by simp only [↓GArg.ev, ↓yG, Nat.reduceEqDiff, ↓reduceIte, f0, f2, f3]) rfl (mine_lt hS7.wf hms) hms ?_
    have hobs := (mine_obj hms).2
    have hrdd : (H8.put s (.dead 0)).rd a3 1 = some (gv) := by rw [rd_put_ne (by omega)]; exact mine_rd hm7
    repeat' (first | (exfalso; omega) | refine zn ?_ | refine zK rfl ?_ | refine zP rfl ?_ | ((first | refine zm ?_ | skip); intro _; intros; simp (disch := first | exact zd | fail) only [↓yS, yT, ↓reduceIte, Nat.reduceEqDiff, Nat.reduceAdd, Nat.reduceMul, reduceCtorEq, Int.reduceToNat, g45, f0, f2, f3, ptr, hrdd]; first | (rename_i K k; refine yC (k _ _ ?_); clear k K) | (rename_i A B C D a b c d; (first | refine zX (a ?_) | refine zY (b ?_) | refine zZ (fun hc => c ?_) (fun hc => d ?_)) <;> clear a b c d A B C D <;> try simp only [yL] at hc)) | (refine yA ?_; intro A a; simp only [↓yG, Nat.reduceEqDiff, ↓reduceIte, g45, f0, f2, f3, ptr, hrdd]; refine yB (a ?_); clear a A) | (refine yD ?_; simp only [gresults, ↓yG, Nat.reduceEqDiff, ↓reduceIte, Option.bind_some, gld_1, gld_n, g45, f0, f2, f3, ptr, hrdd]; refine ⟨_, rfl, ?_⟩; simp only [gone]) | refine zA ?_ | refine zB ?_ | refine zF ?_)
    have hput : (H8.put s (.dead 0)).put s (.cells (rsC n fvs k none) 0 true) = H8 := by rw [put_put]; exact put_self hobs
    rw [hput]
    refine Gp_c (by simp only [gtarget, ↓GArg.ev, ↓evs, ↓Tr.get_set, Nat.reduceEqDiff, if_true, if_false, ↓reduceIte, Option.map_some, f0, f2, f3]; rfl) (rquoted_take hS7.wf hsc7) ?_ fun r9 H9 hq9 => ?_
    · exact fun v H' h i hi hni => h.2.2.obj i hi fun e => hni (by simp [e])
    obtain ⟨rfl, hsc9, hB9⟩ := hq9
    have hS9 := hB9.same hS7 (fun q hq e => by omega)
    have hO9 := hO7.but hB9 (fun q hq e => by omega) (fun a ha e => unit_no' hO7 (a := s) hms (by decide) (e ▸ ha))
    have hmA9 : H9.mine H.len = some ([.string ⟨#[]⟩, .slice none 0 0], 0) := by rw [hB9.mine (mine_lt hS7.wf hmT7) (by omega)]; exact hmT7
    have hm9 : H9.mine a3 = some ([.string (strB t1), gv], 0) := by rw [hB9.mine (mine_lt hS7.wf hm7) (by omega)]; exact hm7
    have hg9 := hPI9.sm.2.1
    rw [List.length_append] at hg9
    simp only [List.length_cons, List.length_nil] at hg9
    generalize (tkF L true k none).1 = tx at *
    generalize (tkF L true k none).2.2.1 = k9 at *
    generalize (tkF L true k none).2.2.2 = e9 at *
    refine Gp_t (by simp [aims, target]) fun K' hK' => ?_
    simp (disch := first | exact zd | fail) only [↓yS, yT, ↓reduceIte, Nat.reduceEqDiff, Nat.reduceAdd, Nat.reduceMul, reduceCtorEq, Int.reduceToNat, f0, f2, f3]
    refine G1_go (hK' _ _ ?_)
    clear hK' K'
    have hrow9 : (List.take 0 (zeros [.string ⟨#[]⟩] 1) ++ (Value.string (strB tx)).cells.toList ++ List.drop 1 (zeros [.string ⟨#[]⟩] 1)) = strs [tx] := rfl
    rw [hrow9]
    obtain ⟨v10, H10, e10, hO10, hB10⟩ := hO9.app1 (b := 16) (by decide) (by decide) (news := strs [tx]) rfl (by omega) (by omega)
    refine Gp_s fun K' hK' => ?_
    simp (disch := first | exact zd | fail) only [↓yS, yT, ↓reduceIte, Nat.reduceEqDiff, Nat.reduceAdd, Nat.reduceMul, reduceCtorEq, Int.reduceToNat, f0, f2, f3]
    refine G1_eq e10 (hK' _ _ ?_)
    clear hK' K' e10
    have hS10 := hO10.same
    have hw10 := hS10.wf
    have hmA10 : H10.mine H.len = some ([.string ⟨#[]⟩, .slice none 0 0], 0) := by rw [hB10.mine (mine_lt hS9.wf hmA9) (unit_no' hO9 hmA9 (by decide))]; exact hmA9
    have hm10 : H10.mine a3 = some ([.string (strB t1), gv], 0) := by rw [hB10.mine (mine_lt hS9.wf hm9) (unit_no' hO9 hm9 (by decide))]; exact hm9
    have hsc10 : RcAt H10 s n L k9 e9 := by
      obtain ⟨cs9, hmw⟩ := hsc9.mine
      exact hsc9.but hS9.wf hB10 (unit_no' hO9 hmw (by decide)) fun a cs hm => unit_no' hO9 hm (by decide)
    have hlt10 := mine_lt hw10 hm10
    have hlm10 := (mine_obj hm10).1
    have hBs : But (fun q => q = a3) H10 (H10.put a3 (.cells [.string (strB t1), v10] 0 true)) := (But.refl (S := fun q => q = a3) hw10).put rfl hlt10 _
    have hsc11 : RcAt (H10.put a3 (.cells [.string (strB t1), v10] 0 true)) s n L k9 e9 := hsc10.but hw10 hBs (by omega) (mine_no hm10 (by decide))
    have hmA11 : (H10.put a3 (.cells [.string (strB t1), v10] 0 true)).mine H.len = some ([.string ⟨#[]⟩, .slice none 0 0], 0) := by rw [hBs.mine (mine_lt hw10 hmA10) (by omega)]; exact hmA10
    have hm13_11 : (H10.put a3 (.cells [.string (strB t1), v10] 0 true)).mine a3 = some ([.string (strB t1), v10], 0) := mine_put_same hlm10
    have hO11 : OS 1 1 H0 (H10.put a3 (.cells [.string (strB t1), v10] 0 true)) v10 (g ++ [tx]).length (strs (g ++ [tx])) := by
      have h1 : strs (g ++ [tx]) = strs g ++ strs [tx] := by simp [strs]
      rw [h1, List.length_append]
      exact hO10.but hBs (fun q hq e => by omega) fun a ha e => unit_no' hO10 hm10 (by decide) (e ▸ ha)
    repeat' (first | (exfalso; omega) | refine zn ?_ | refine zK rfl ?_ | refine zP rfl ?_ | ((first | refine zm ?_ | skip); intro _; intros; simp (disch := first | exact zd | fail) only [↓yS, yT, ↓reduceIte, Nat.reduceEqDiff, Nat.reduceAdd, Nat.reduceMul, reduceCtorEq, Int.reduceToNat, g45, f0, f2, f3]; first | (rename_i K k; refine yC (k _ _ ?_); clear k K) | (rename_i A B C D a b c d; (first | refine zX (a ?_) | refine zY (b ?_) | refine zZ (fun hc => c ?_) (fun hc => d ?_)) <;> clear a b c d A B C D <;> try simp only [yL] at hc)) | (refine yA ?_; intro A a; simp only [↓yG, Nat.reduceEqDiff, ↓reduceIte, g45, f0, f2, f3]; refine yB (a ?_); clear a A) | (refine yD ?_; simp only [gresults, ↓yG, Nat.reduceEqDiff, ↓reduceIte, Option.bind_some, gld_1, gld_n, g45, f0, f2, f3]; refine ⟨_, rfl, ?_⟩; simp only [gone]) | refine zA ?_ | refine zB ?_ | refine zF ?_)
    refine Gp_0 fun K' hK' => ?_
    have hgs : gset [.string (strB t1), gv] 1 v10 = some [.string (strB t1), v10] := by simp [gset, hO10.flat]
    simp (disch := first | exact zd | fail) only [↓yS, yT, ↓reduceIte, Nat.reduceEqDiff, Nat.reduceAdd, Nat.reduceMul, reduceCtorEq, Int.reduceToNat, f0, f2, f3, hm10, hgs]
    refine G1_go (hK' _ _ ?_)
    clear hK' K'
    repeat' (first | (exfalso; omega) | refine zn ?_ | refine zK rfl ?_ | refine zP rfl ?_ | ((first | refine zm ?_ | skip); intro _; intros; simp (disch := first | exact zd | fail) only [↓yS, yT, ↓reduceIte, Nat.reduceEqDiff, Nat.reduceAdd, Nat.reduceMul, reduceCtorEq, Int.reduceToNat, g45, f0, f2, f3]; first | (rename_i K k; refine yC (k _ _ ?_); clear k K) | (rename_i A B C D a b c d; (first | refine zX (a ?_) | refine zY (b ?_) | refine zZ (fun hc => c ?_) (fun hc => d ?_)) <;> clear a b c d A B C D <;> try simp only [yL] at hc)) | (refine yA ?_; intro A a; simp only [↓yG, Nat.reduceEqDiff, ↓reduceIte, g45, f0, f2, f3]; refine yB (a ?_); clear a A) | (refine yD ?_; simp only [gresults, ↓yG, Nat.reduceEqDiff, ↓reduceIte, Option.bind_some, gld_1, gld_n, g45, f0, f2, f3]; refine ⟨_, rfl, ?_⟩; simp only [gone]) | refine zA ?_ | refine zB ?_ | refine zF ?_)
    refine hJ2 _ _ ⟨(if e9 = none then L.length - k9 + 1 else 0), hdec, k9, e9, g ++ [tx], v10, rfl, ?_⟩
    simp only [↓yG, Nat.reduceEqDiff, ↓reduceIte, Int.natCast_add, Int.cast_ofNat_Int, Int.natCast_zero, true_and, and_true, Option.some.injEq, Value.int.injEq, f0, f2, f3]
    exact ⟨hsc11, hmA11, hm13_11, hO11, hPI9⟩
  have hke : e = none → k = L.length := fun he => Nat.le_antisymm hle7 (Nat.le_of_not_lt fun h => hgo ⟨he, h⟩)
  have h0 : (if e = none then L.length - k else 0) = 0 := by
    split
    · rename_i he; have := hke he; omega
    · rfl
  rw [h0]
  have hltT := mine_lt hw7 hmT7
  have hlmT := (mine_obj hmT7).1
  have hr7 : H8.rdn a3 0 2 = some (.agg #[.string (strB t1), gv]) := by
    unfold GHeap.rdn
    rw [mine_cs hm7]; rfl
  have hgf : gsetn [.string ⟨#[]⟩, .slice none 0 0] 0 2 (.agg #[.string (strB t1), gv]) = some [.string (strB t1), gv] := gsetn_all rfl rfl (by
    show ([.string (strB t1), gv] : List Value).all flatV = true
    simp only [List.all_cons, List.all_nil, hO7.flat]; rfl)
  have hrT : (H8.put H.len (.cells [.string (strB t1), gv] 0 true)).rdn H.len 0 2 = some (.agg #[.string (strB t1), gv]) := rdn_put_all rfl
  repeat' (first | (exfalso; omega) | refine zn ?_ | refine zK rfl ?_ | refine zP rfl ?_ | ((first | refine zm ?_ | skip); intro _; intros; simp (disch := first | exact zd | fail) only [↓yS, yT, ↓reduceIte, Nat.reduceEqDiff, Nat.reduceAdd, Nat.reduceMul, reduceCtorEq, Int.reduceToNat, g45, f0, f2, f3, hr7, hgf, hmT7, hrT]; first | (rename_i K k; refine yC (k _ _ ?_); clear k K) | (rename_i A B C D a b c d; (first | refine zX (a ?_) | refine zY (b ?_) | refine zZ (fun hc => c ?_) (fun hc => d ?_)) <;> clear a b c d A B C D <;> try simp only [yL] at hc)) | (refine yA ?_; intro A a; simp only [↓yG, Nat.reduceEqDiff, ↓reduceIte, g45, f0, f2, f3, hr7, hgf, hmT7, hrT]; refine yB (a ?_); clear a A) | (refine yD ?_; simp only [gresults, ↓yG, Nat.reduceEqDiff, ↓reduceIte, Option.bind_some, gld_1, gld_n, g45, f0, f2, f3, hr7, hgf, hmT7, hrT]; refine ⟨_, rfl, ?_⟩; simp only [gone]) | refine zA ?_ | refine zB ?_ | refine zF ?_)
  have hBT : But (fun q => q = H.len) H8 (H8.put H.len (.cells [.string (strB t1), gv] 0 true)) := (But.refl (S := fun q => q = H.len) hw7).put rfl hltT _
  refine hPost _ _ ⟨t1, g, gv, k, e, rfl, hO7.but hBT (fun q hq e => by omega) (fun a ha e => unit_no' hO7 hmT7 (by decide) (e ▸ ha)), hsc7.but hw7 hBT (by omega) (mine_no hmT7 (by decide)), hPI7, hke⟩
end Go.Gh
