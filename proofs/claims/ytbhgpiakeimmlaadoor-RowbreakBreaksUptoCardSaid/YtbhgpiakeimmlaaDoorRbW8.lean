/-
  rowbreak, walked: Break.
-/
import Derived.Test.YtbhgpiakeimmlaaDoorRbW7
import Derived.Test.YtbhgpiakeimmlaaDoorRbWP
namespace Go.Gh
set_option linter.unusedSimpArgs false
set_option linter.unusedVariables false
open Go.RowKit
set_option maxRecDepth 4000

def bkC (ev : Value) (c : Int) (pv : Value) : List Value := [ev, .int .i64 c, pv]
theorem bkC_0 {ev pv : Value} {c : Int} : (bkC ev c pv)[0]? = some ev := rfl
theorem bkC_1 {ev pv : Value} {c : Int} : (bkC ev c pv)[1]? = some (.int .i64 c) := rfl
theorem bkC_2 {ev pv : Value} {c : Int} : (bkC ev c pv)[2]? = some pv := rfl
/-- breaks with their error, as they are returned -/
def brkV (ev : Value) (c : Int) (pv : Value) (e : Int) : Value := .tuple #[.agg (bkC ev c pv).toArray, .int .i64 e]
/-- the potentials up to a place -/
def potU (D : DD) (R x : Nat) : List Int := (List.range x).map fun x => D.P (R - x / (D.n + 1)) (x % (D.n + 1))
def potL (p : Par) : List Int := potU p.D p.r.toNat ((p.r.toNat + 1) * (p.l.length + 1))
theorem potU_len (D : DD) (R x : Nat) : (potU D R x).length = x := by simp [potU]
theorem potU_succ (D : DD) (R k i : Nat) (hi : i < D.n + 1) : ints .i64 (potU D R (k * (D.n + 1) + i + 1)) = ints .i64 (potU D R (k * (D.n + 1) + i)) ++ [.int .i64 (D.P (R - k) i)] := by
  have h1 : (k * (D.n + 1) + i) / (D.n + 1) = k := by
    rw [Nat.mul_comm, Nat.mul_add_div (by omega), Nat.div_eq_of_lt hi, Nat.add_zero]
  have h2 : (k * (D.n + 1) + i) % (D.n + 1) = i := by
    rw [Nat.mul_comm, Nat.mul_add_mod, Nat.mod_eq_of_lt hi]
  simp [ints, potU, List.range_succ, h1, h2]
structure BrkR (H : GHeap) (p : Par) (r : Value) : Prop where
  ex : ∃ ev pv l c e, r = brkV ev c pv e ∧ IR H ev (natsI l) ∧ IR H pv (if e = 0 then potL p else []) ∧ BrkOut p l c e
theorem IR.nil {H : GHeap} : IR H (.slice none 0 0) [] := RB.nil
theorem OS.ir {H0 H : GHeap} {v : Value} {n : Nat} {E : List Int} (h : OS 1 1 H0 H v n (ints .i64 E)) : IR H v E := by
  have := OwnG.arg h.same.wf h.own (.inr rfl)
  have hl := h.own.len
  rw [ints_length, Nat.mul_one] at hl
  subst hl
  exact this
theorem gsetn_bk {cs : List Value} {ev pv : Value} {c : Int} (hl : cs.length = 3) (h1 : flatV ev = true) (h2 : flatV pv = true) : gsetn cs 0 3 (.agg (bkC ev c pv).toArray) = some (bkC ev c pv) := by
  refine gsetn_all hl rfl ?_
  simp only [bkC, List.all_cons, List.all_nil, h1, h2]
  rfl
theorem potU_0 (D : DD) (R : Nat) {x : Nat} (h : 0 < x) : (ints .i64 (potU D R x))[0]? = some (.int .i64 (D.P R 0)) := by
  rw [ints_get]
  simp [potU, List.getElem?_range h]
theorem bk_set0 {ev ev' pv : Value} {c : Int} (h : flatV ev' = true) : gset (bkC ev c pv) 0 ev' = some (bkC ev' c pv) := gset_ok (by simp [bkC]) h
theorem bk_set1 {ev pv : Value} {c c' : Int} : gset (bkC ev c pv) 1 (.int .i64 c') = some (bkC ev c' pv) := gset_ok (by simp [bkC]) rfl
theorem bk_set2 {ev pv pv' : Value} {c : Int} (h : flatV pv' = true) : gset (bkC ev c pv) 2 pv' = some (bkC ev c pv') := gset_ok (by simp [bkC]) h
/-- an object of one's own that is no row of numbers -/
theorem OS.off {H0 H : GHeap} {v : Value} {n i : Nat} {xs cs : List Value} (h : OS 1 1 H0 H v n xs) (hm : H.mine i = some (cs, 0)) : ∀ a ∈ idOf v, ¬ a = i := fun a ha e => by
  have := (h.ids ha).2.2
  rw [e, hm] at this
  simp at this
/-- what an append of one element returns lies behind what was there -/
theorem OS.app1_id {s u n : Nat} {H0 H H' : GHeap} {v v' : Value} {xs : List Value} (h : OS s u H0 H v n xs) (hu : u ≠ 0) (hs : s ≠ 0) {news : List Value} (hn : news.length = s) {b : Nat} (hb : (n + 1) * b ≤ 140737488355328) (hk : n < 140737488355328)
    (e : gapp s b u (H.add (some (.cells news u true))) v (.slice (some ⟨H.len, 0, none⟩) 1 2) = some (v', H')) : ∀ a ∈ idOf v', H.len ≤ a := by
  have hw := h.same.wf
  have hw2 := (Fwd.add hw (some (.cells news u true))).wf hw
  have hO2 : OwnG (H.add (some (.cells news u true))) v s u n xs := ⟨h.own.len, h.own.at_.imp id fun ⟨j, gc, e, hg, hm⟩ => ⟨j, gc, e, hg, by rw [mine_add_ne (by have := mine_lt hw hm; omega)]; exact hm⟩⟩
  obtain ⟨v2, H2, k1, k2, k3, k4, k5, k6, k7⟩ := gapp_own (bytes := b) (m := 1) (x := .slice (some ⟨H.len, 0, none⟩) 1 2) (news := news) hw2 hO2 hu hs rfl (gcells_own (mine_add_eq rfl hw.1) (by omega)) (by omega) (by omega) (by omega) (by omega)
  rw [e] at k1
  simp only [Option.some.injEq, Prod.mk.injEq] at k1
  obtain ⟨rfl, rfl⟩ := k1
  rw [len_add] at k6
  intro a ha
  rcases k2.at_ with ⟨e2, _⟩ | ⟨i, gc, e2, _⟩
  · rw [e2] at ha; simp [idOf] at ha
  · rw [e2] at ha k6
    simp only [idOf, List.mem_singleton] at ha
    have : i = H.len + 1 := k6
    omega
theorem natsI_snoc (l : List Nat) (j : Nat) : ints .i64 (natsI (l ++ [j])) = ints .i64 (natsI l) ++ [.int .i64 j] := by simp [ints, natsI]
set_option maxHeartbeats 4000000 in
theorem Break_ok {H : GHeap} (hw : H.wf) {p : Par} (hp : PR H p) :
    ∃ r H', gev G 19 [parV p] H = some (r, H') ∧ (BrkR H' p r ∧ Same H H') := by
  refine gev_GW (f := 19) rfl fun Post hPost => ?_
  have hf := hp.kr.flat
  have hlim := hw.1
  have hb := par_cflat hf
  have hl := par_cells p
  have hS1 := ((Same.refl hw).add (.cells (parC p) 0 true)).add (.cells [.slice none 0 0, .int .i64 0, .slice none 0 0] 0 true)
  have hSa : Same (H.add (some (.cells (parC p) 0 true))) ((H.add (some (.cells (parC p) 0 true))).add (some (.cells [.slice none 0 0, .int .i64 0, .slice none 0 0] 0 true))) := (Same.refl ((Same.refl hw).add (.cells (parC p) 0 true)).wf).add _
  have e0 := rdn_par (p := p) hSa
  have hm2 : ((H.add (some (.cells (parC p) 0 true))).add (some (.cells [.slice none 0 0, .int .i64 0, .slice none 0 0] 0 true))).mine (H.len + 1) = some ([.slice none 0 0, .int .i64 0, .slice none 0 0], 0) := mine_add_eq (by rw [len_add]) (by rw [lim_add]; omega)
  have hin : H.len + 1 < ((H.add (some (.cells (parC p) 0 true))).add (some (.cells [.slice none 0 0, .int .i64 0, .slice none 0 0] 0 true))).len := by simp only [len_add]; omega
  simp only [frameOf, Nat.reduceAdd]
  repeat' (first | refine zA ?_ | refine zB ?_ | refine zC ?_ | refine zD ?_ | refine zE ?_ | refine zF ?_ | refine zG ?_ | refine zH ?_ | refine zI ?_ | refine zJ ?_ | refine zK rfl ?_ | refine zL ?_ | refine zM ?_ | refine zN ?_ | refine zO ?_ | refine zP rfl ?_ | refine zQ ?_ | ((first | refine zR ?_ | refine zS ?_ | refine zT ?_ | skip); intro K k; simp (disch := (first | (simp only [yD2, beq_self_eq_true, Nat.reduceLT, Nat.reduceAdd]; done) | ((fail_if_success (apply Bool.eq_iff_iff.2)); first | omega | (simp only [yD2, beq_self_eq_true, Nat.reduceLT, Nat.reduceAdd] <;> omega)) | fail)) only [↓yS, yT, ↓reduceIte, Nat.reduceEqDiff, Nat.reduceAdd, Nat.reduceMul, reduceCtorEq, Int.reduceToNat, g19, hb, hl, e0]; refine yC (k _ _ ?_); clear k K) | ((first | refine zU ?_ | refine zV ?_ | refine zW ?_); intro A B C D a b c d; simp only [↓yG, Nat.reduceEqDiff, ↓reduceIte, g19, hb, hl, e0]; (first | refine zX (a ?_) | refine zY (b ?_) | refine zZ (fun hc => c ?_) (fun hc => d ?_)) <;> clear a b c d A B C D <;> try simp only [yL] at hc) | (refine yA ?_; intro A a; simp only [↓yG, Nat.reduceEqDiff, ↓reduceIte, g19, hb, hl, e0]; refine yB (a ?_); clear a A) | (refine yD ?_; simp only [gresults, ↓yG, Nat.reduceEqDiff, ↓reduceIte, Option.bind_some, gld_1, gld_n, g19, hb, hl, e0]; refine ⟨_, rfl, ?_⟩; simp only [gone]))
  refine Gw_s fun K' hK' => G1_call (by simp only [gtarget, ↓GArg.ev, ↓evs, ↓Tr.get_set, Nat.reduceEqDiff, if_true, if_false, ↓reduceIte, Option.map_some]; rfl) (check_ok hS1.wf (hp.later hw hS1)) fun r1 H1 hq => hK' _ _ ?_
  obtain ⟨rfl, hS2⟩ := hq
  have hS := hS1.trans hS2
  have hSa2 := hSa.trans hS2
  have e1 := rdn_par hSa2
  have hm3 : H1.mine (H.len + 1) = some ([.slice none 0 0, .int .i64 0, .slice none 0 0], 0) := by rw [hS2.mine hin]; exact hm2
  have hin1 : H.len + 1 < H1.len := Nat.lt_of_lt_of_le hin hS2.len
  have hsz : gsetn [.slice none 0 0, .int .i64 0, .slice none 0 0] 0 3 (.agg #[.slice none 0 0, .int .i64 0, .slice none 0 0]) = some [.slice none 0 0, .int .i64 0, .slice none 0 0] := gsetn_bk (ev := .slice none 0 0) (pv := .slice none 0 0) (c := 0) rfl rfl rfl
  by_cases h0 : parF p = 0
  case neg =>
    have h0' : (parF p = 0) = False := eq_false h0
    have hrr : (H1.put (H.len + 1) (.cells [.slice none 0 0, .int .i64 0, .slice none 0 0] 0 true)).rdn (H.len + 1) 0 3 = some (.agg (bkC (.slice none 0 0) 0 (.slice none 0 0)).toArray) := rdn_put_all rfl
    repeat' (first | (exfalso; omega) | refine zA ?_ | refine zB ?_ | refine zC ?_ | refine zD ?_ | refine zE ?_ | refine zF ?_ | refine zG ?_ | refine zH ?_ | refine zI ?_ | refine zJ ?_ | refine zK rfl ?_ | refine zL ?_ | refine zM ?_ | refine zN ?_ | refine zO ?_ | refine zP rfl ?_ | refine zQ ?_ | ((first | refine zR ?_ | refine zS ?_ | refine zT ?_ | skip); intro K k; simp (disch := (first | (simp only [yD2, beq_self_eq_true, Nat.reduceLT, Nat.reduceAdd]; done) | ((fail_if_success (apply Bool.eq_iff_iff.2)); first | omega | (simp only [yD2, beq_self_eq_true, Nat.reduceLT, Nat.reduceAdd] <;> omega)) | fail)) only [↓yS, yT, ↓reduceIte, Nat.reduceEqDiff, Nat.reduceAdd, Nat.reduceMul, reduceCtorEq, Int.reduceToNat, g19, h0', hm3, hsz, hrr]; refine yC (k _ _ ?_); clear k K) | ((first | refine zU ?_ | refine zV ?_ | refine zW ?_); intro A B C D a b c d; simp only [↓yG, Nat.reduceEqDiff, ↓reduceIte, g19, h0', hm3, hsz, hrr]; (first | refine zX (a ?_) | refine zY (b ?_) | refine zZ (fun hc => c ?_) (fun hc => d ?_)) <;> clear a b c d A B C D <;> try simp only [yL] at hc) | (refine yA ?_; intro A a; simp only [↓yG, Nat.reduceEqDiff, ↓reduceIte, g19, h0', hm3, hsz, hrr]; refine yB (a ?_); clear a A) | (refine yD ?_; simp only [gresults, ↓yG, Nat.reduceEqDiff, ↓reduceIte, Option.bind_some, gld_1, gld_n, g19, h0', hm3, hsz, hrr]; refine ⟨_, rfl, ?_⟩; simp only [gone]))
    refine hPost _ _ ⟨⟨_, _, [], 0, parF p, rfl, IR.nil, ?_, .inl ⟨h0, rfl, rfl, rfl⟩⟩, hS.put (by omega) hin1 _⟩
    rw [if_neg h0]; exact IR.nil
  rw [h0]
  repeat' (first | (exfalso; omega) | refine zA ?_ | refine zB ?_ | refine zC ?_ | refine zD ?_ | refine zE ?_ | refine zF ?_ | refine zG ?_ | refine zH ?_ | refine zI ?_ | refine zJ ?_ | refine zK rfl ?_ | refine zL ?_ | refine zM ?_ | refine zN ?_ | refine zO ?_ | refine zP rfl ?_ | refine zQ ?_ | ((first | refine zR ?_ | refine zS ?_ | refine zT ?_ | skip); intro K k; simp (disch := (first | (simp only [yD2, beq_self_eq_true, Nat.reduceLT, Nat.reduceAdd]; done) | ((fail_if_success (apply Bool.eq_iff_iff.2)); first | omega | (simp only [yD2, beq_self_eq_true, Nat.reduceLT, Nat.reduceAdd] <;> omega)) | fail)) only [↓yS, yT, ↓reduceIte, Nat.reduceEqDiff, Nat.reduceAdd, Nat.reduceMul, reduceCtorEq, Int.reduceToNat, g19, e1]; refine yC (k _ _ ?_); clear k K) | ((first | refine zU ?_ | refine zV ?_ | refine zW ?_); intro A B C D a b c d; simp only [↓yG, Nat.reduceEqDiff, ↓reduceIte, g19, e1]; (first | refine zX (a ?_) | refine zY (b ?_) | refine zZ (fun hc => c ?_) (fun hc => d ?_)) <;> clear a b c d A B C D <;> try simp only [yL] at hc) | (refine yA ?_; intro A a; simp only [↓yG, Nat.reduceEqDiff, ↓reduceIte, g19, e1]; refine yB (a ?_); clear a A) | (refine yD ?_; simp only [gresults, ↓yG, Nat.reduceEqDiff, ↓reduceIte, Option.bind_some, gld_1, gld_n, g19, e1]; refine ⟨_, rfl, ?_⟩; simp only [gone]))
  have hk : PK H p := ⟨hp, h0⟩
  refine Gw_s fun K' hK' => G1_call (by simp only [gtarget, ↓GArg.ev, ↓evs, ↓Tr.get_set, Nat.reduceEqDiff, if_true, if_false, ↓reduceIte, Option.map_some]; rfl) (open_ok hS.wf (hk.later hw hS)) fun sv H2 hq => hK' _ _ ?_
  obtain ⟨hsh, hS3⟩ := hq
  have hS' := hS.trans hS3
  repeat' (first | (exfalso; omega) | refine zA ?_ | refine zB ?_ | refine zC ?_ | refine zD ?_ | refine zE ?_ | refine zF ?_ | refine zG ?_ | refine zH ?_ | refine zI ?_ | refine zJ ?_ | refine zK rfl ?_ | refine zL ?_ | refine zM ?_ | refine zN ?_ | refine zO ?_ | refine zP rfl ?_ | refine zQ ?_ | ((first | refine zR ?_ | refine zS ?_ | refine zT ?_ | skip); intro K k; simp (disch := (first | (simp only [yD2, beq_self_eq_true, Nat.reduceLT, Nat.reduceAdd]; done) | ((fail_if_success (apply Bool.eq_iff_iff.2)); first | omega | (simp only [yD2, beq_self_eq_true, Nat.reduceLT, Nat.reduceAdd] <;> omega)) | fail)) only [↓yS, yT, ↓reduceIte, Nat.reduceEqDiff, Nat.reduceAdd, Nat.reduceMul, reduceCtorEq, Int.reduceToNat, g19]; refine yC (k _ _ ?_); clear k K) | ((first | refine zU ?_ | refine zV ?_ | refine zW ?_); intro A B C D a b c d; simp only [↓yG, Nat.reduceEqDiff, ↓reduceIte, g19]; (first | refine zX (a ?_) | refine zY (b ?_) | refine zZ (fun hc => c ?_) (fun hc => d ?_)) <;> clear a b c d A B C D <;> try simp only [yL] at hc) | (refine yA ?_; intro A a; simp only [↓yG, Nat.reduceEqDiff, ↓reduceIte, g19]; refine yB (a ?_); clear a A) | (refine yD ?_; simp only [gresults, ↓yG, Nat.reduceEqDiff, ↓reduceIte, Option.bind_some, gld_1, gld_n, g19]; refine ⟨_, rfl, ?_⟩; simp only [gone]))
  refine Gw_s fun K' hK' => G1_call (by simp only [gtarget, ↓GArg.ev, ↓evs, ↓Tr.get_set, Nat.reduceEqDiff, if_true, if_false, ↓reduceIte, Option.map_some]; rfl) (exact_ok hS'.wf hsh (hk.later hw hS')) fun tv H3 hq => hK' _ _ ?_
  obtain ⟨hT, hS4⟩ := hq
  have hS'' := hS'.trans hS4
  have hm7 : (H3.add (some (.cells [.slice none 0 0, .int .i64 0, .slice none 0 0] 0 true))).mine H3.len = some ([.slice none 0 0, .int .i64 0, .slice none 0 0], 0) := mine_add_eq rfl hS''.wf.1
  have hsz1 : gsetn [.slice none 0 0, .int .i64 0, .slice none 0 0] 0 3 (.agg #[.slice none 0 0, .int .i64 (-1), .slice none 0 0]) = some (bkC (.slice none 0 0) (-1) (.slice none 0 0)) := gsetn_bk rfl rfl rfl
  obtain ⟨it, gct, ids, rfl, hit, hidl, hTa, hrows⟩ := hT.ex
  have hslt := hTa.rd.isSl
  have hn := hk.n
  have hpar := parF_ok hk.ok
  have hG := Par.good hk.ok
  have hD : p.D.n = p.l.length := rfl
  repeat' (first | (exfalso; omega) | refine zA ?_ | refine zB ?_ | refine zC ?_ | refine zD ?_ | refine zE ?_ | refine zF ?_ | refine zG ?_ | refine zH ?_ | refine zI ?_ | refine zJ ?_ | refine zK rfl ?_ | refine zL ?_ | refine zM ?_ | refine zN ?_ | refine zO ?_ | refine zP rfl ?_ | refine zQ ?_ | ((first | refine zR ?_ | refine zS ?_ | refine zT ?_ | skip); intro K k; simp (disch := (first | (simp only [yD2, beq_self_eq_true, Nat.reduceLT, Nat.reduceAdd]; done) | ((fail_if_success (apply Bool.eq_iff_iff.2)); first | omega | (simp only [yD2, beq_self_eq_true, Nat.reduceLT, Nat.reduceAdd] <;> omega)) | fail)) only [↓yS, yT, ↓reduceIte, Nat.reduceEqDiff, Nat.reduceAdd, Nat.reduceMul, reduceCtorEq, Int.reduceToNat, g19, hm7, hsz1, hslt.len]; refine yC (k _ _ ?_); clear k K) | ((first | refine zU ?_ | refine zV ?_ | refine zW ?_); intro A B C D a b c d; simp only [↓yG, Nat.reduceEqDiff, ↓reduceIte, g19, hm7, hsz1, hslt.len]; (first | refine zX (a ?_) | refine zY (b ?_) | refine zZ (fun hc => c ?_) (fun hc => d ?_)) <;> clear a b c d A B C D <;> try simp only [yL] at hc) | (refine yA ?_; intro A a; simp only [↓yG, Nat.reduceEqDiff, ↓reduceIte, g19, hm7, hsz1, hslt.len]; refine yB (a ?_); clear a A) | (refine yD ?_; simp only [gresults, ↓yG, Nat.reduceEqDiff, ↓reduceIte, Option.bind_some, gld_1, gld_n, g19, hm7, hsz1, hslt.len]; refine ⟨_, rfl, ?_⟩; simp only [gone]))
  have hS5 : Same H3 ((H3.add (some (.cells [.slice none 0 0, .int .i64 0, .slice none 0 0] 0 true))).put H3.len (.cells (bkC (.slice none 0 0) (-1) (.slice none 0 0)) 0 true)) := (Same.refl hS''.wf).new _ _
  have hm5 : ((H3.add (some (.cells [.slice none 0 0, .int .i64 0, .slice none 0 0] 0 true))).put H3.len (.cells (bkC (.slice none 0 0) (-1) (.slice none 0 0)) 0 true)).mine H3.len = some (bkC (.slice none 0 0) (-1) (.slice none 0 0), 0) := mine_put_same (mine_obj hm7).1
  generalize (H3.add (some (.cells [.slice none 0 0, .int .i64 0, .slice none 0 0] 0 true))).put H3.len (.cells (bkC (.slice none 0 0) (-1) (.slice none 0 0)) 0 true) = H5 at *
  have hO5 : OS 1 1 H3 H5 (.slice none 0 0) (0 * (p.D.n + 1) + 0) (ints .i64 (potU p.D p.r.toNat (0 * (p.D.n + 1) + 0))) := by
    rw [Nat.zero_mul]; exact OS.nil hS5
  obtain ⟨R, hR⟩ : ∃ R : Nat, p.r = R := ⟨p.r.toNat, by omega⟩
  have hRt : p.r.toNat = R := by omega
  have hE : ∀ H', Same H3 H' → ∀ r i, r ≤ R → i ≤ p.l.length → H'.rd ids[r]! i = some (.int .i64 (p.D.E r i)) := fun H' hS r i hr hi => by
    obtain ⟨h1, h2⟩ := hrows r (by omega)
    rw [hS.rd h1]
    simp only [GHeap.rd, h2, Option.bind_some]
    rw [ints_get, rowE_at (by omega)]; rfl
  have hTr : ∀ H', Same H3 H' → ∀ r, r ≤ R → H'.rd it r = some (.slice (some ⟨ids[r]!, 0, none⟩) (p.l.length + 1) (p.l.length + 1 + 1)) := fun H' hS r hr => by
    have h1 := hTa.rd.rd (c := r) (by rw [tab_len]; omega)
    rw [tab_get (by omega) (by omega)] at h1
    simp only [blk_sl, ofs_sl, Nat.zero_add] at h1
    rw [hS.rd hit]; exact h1
  have hpr : ∀ H', Same H3 H' → ∀ o, H'.rd H.len o = (parC p)[o]? := fun H' hS => rd_par (hSa2.trans (hS3.trans (hS4.trans hS)))
  have hP2 : (parC p)[2]? = some (.int .i64 (R : Nat)) := by rw [parC_2, hR]
  have hPt : potL p = potU p.D R ((R + 1) * (p.D.n + 1)) := by unfold potL; rw [hRt, hD]
  rw [hRt] at hTa hslt hO5 ⊢
  have hTw := hS''.wf
  have hpre := fun b hb => GArg1.preI hTw hTa (b := b) hb
  have hBo : BrkOut p = fun l c e => (parF p ≠ 0 ∧ e = parF p ∧ l = [] ∧ c = 0) ∨ (parF p = 0 ∧ p.D.P R 0 = -1 ∧ e = 11 ∧ l = [] ∧ c = 0) ∨ (parF p = 0 ∧ e = 0 ∧ c = p.D.P R 0 ∧ Brk p.D R l c) := by
    funext l c e; unfold BrkOut; rw [hRt]
  have hmr : H3.mine (H.len + 1) = some ([.slice none 0 0, .int .i64 0, .slice none 0 0], 0) := by rw [hS4.mine (Nat.lt_of_lt_of_le hin1 hS3.len), hS3.mine hin1]; exact hm3
  have hinr : H.len + 1 < H3.len := Nat.lt_of_lt_of_le (Nat.lt_of_lt_of_le hin1 hS3.len) hS4.len
  have hsh3 := hsh.later hS4
  have hk3 := hk.later hw hS''
  clear hm7 hsz1 hrows hm3 hm2 e0 e1 hSa hSa2 hTa hS1 hS2 hS3 hS4 hS hS' hsh hb hl hf hin hin1 hT
  generalize hnn : p.l.length = n at *
  refine GW_loop (fun k fr H4 => ∃ (q : Nat) (pv : Value), k = R + 1 - q ∧ q ≤ R + 1 ∧ fr.get 1 = some (.pointer (some ⟨H.len, 0, none⟩)) ∧ fr.get 2 = some (.pointer (some ⟨H.len + 1, 0, none⟩)) ∧ fr.get 5 = some (sv) ∧ fr.get 6 = some (.slice (some ⟨it, 0, none⟩) (R + 1) gct) ∧ fr.get 7 = some (.pointer (some ⟨H3.len, 0, none⟩)) ∧ fr.get 29 = some (.int .i64 (R + 1 : Nat)) ∧ fr.get 30 = some (.int .i64 q) ∧ H4.mine H3.len = some (bkC (.slice none 0 0) (-1) pv, 0) ∧ OS 1 1 H3 H4 pv (q * (p.D.n + 1) + 0) (ints .i64 (potU p.D R (q * (p.D.n + 1) + 0)))) ?_ (R + 1) ?_
  rotate_left
  · refine ⟨0, .slice none 0 0, by omega, by omega, ?_⟩
    simp only [↓yG, Nat.reduceEqDiff, ↓reduceIte, Int.natCast_add, Int.cast_ofNat_Int, Int.natCast_zero, true_and, and_true, Option.some.injEq, Value.int.injEq]
    exact ⟨hm5, hO5⟩
  clear hm5 hO5 hS5 H5
  rintro k fr H4 ⟨q, pv, rfl, hq, f1, f2, f5, f6, f7, f29, f30, hm, hO⟩ J hJ
  have hSq := hO.same
  have hw4 := hSq.wf
  have hio := mine_lt hw4 hm
  by_cases hq1 : q < R + 1
  · have ht0 := hTr _ hSq 0 (by omega)
    repeat' (first | (exfalso; omega) | refine zA ?_ | refine zB ?_ | refine zC ?_ | refine zD ?_ | refine zE ?_ | refine zF ?_ | refine zG ?_ | refine zH ?_ | refine zI ?_ | refine zJ ?_ | refine zK rfl ?_ | refine zL ?_ | refine zM ?_ | refine zN ?_ | refine zO ?_ | refine zP rfl ?_ | refine zQ ?_ | ((first | refine zR ?_ | refine zS ?_ | refine zT ?_ | skip); intro K k; simp (disch := (first | (simp only [yD2, beq_self_eq_true, Nat.reduceLT, Nat.reduceAdd]; done) | ((fail_if_success (apply Bool.eq_iff_iff.2)); first | omega | (simp only [yD2, beq_self_eq_true, Nat.reduceLT, Nat.reduceAdd] <;> omega)) | fail)) only [↓yS, yT, ↓reduceIte, Nat.reduceEqDiff, Nat.reduceAdd, Nat.reduceMul, reduceCtorEq, Int.reduceToNat, g19, f1, f2, f5, f6, f7, f29, f30, ht0]; refine yC (k _ _ ?_); clear k K) | ((first | refine zU ?_ | refine zV ?_ | refine zW ?_); intro A B C D a b c d; simp only [↓yG, Nat.reduceEqDiff, ↓reduceIte, g19, f1, f2, f5, f6, f7, f29, f30, ht0]; (first | refine zX (a ?_) | refine zY (b ?_) | refine zZ (fun hc => c ?_) (fun hc => d ?_)) <;> clear a b c d A B C D <;> try simp only [yL] at hc) | (refine yA ?_; intro A a; simp only [↓yG, Nat.reduceEqDiff, ↓reduceIte, g19, f1, f2, f5, f6, f7, f29, f30, ht0]; refine yB (a ?_); clear a A) | (refine yD ?_; simp only [gresults, ↓yG, Nat.reduceEqDiff, ↓reduceIte, Option.bind_some, gld_1, gld_n, g19, f1, f2, f5, f6, f7, f29, f30, ht0]; refine ⟨_, rfl, ?_⟩; simp only [gone]))
    refine GW_loop (fun k fr H5 => ∃ (i : Nat) (pv : Value), k = n + 1 - i ∧ i ≤ n + 1 ∧ fr.get 1 = some (.pointer (some ⟨H.len, 0, none⟩)) ∧ fr.get 2 = some (.pointer (some ⟨H.len + 1, 0, none⟩)) ∧ fr.get 5 = some (sv) ∧ fr.get 6 = some (.slice (some ⟨it, 0, none⟩) (R + 1) gct) ∧ fr.get 7 = some (.pointer (some ⟨H3.len, 0, none⟩)) ∧ fr.get 8 = some (.int .i64 q) ∧ fr.get 29 = some (.int .i64 (R + 1 : Nat)) ∧ fr.get 30 = some (.int .i64 q) ∧ fr.get 36 = some (.int .i64 (n + 1 : Nat)) ∧ fr.get 37 = some (.int .i64 i) ∧ H5.mine H3.len = some (bkC (.slice none 0 0) (-1) pv, 0) ∧ OS 1 1 H3 H5 pv (q * (p.D.n + 1) + i) (ints .i64 (potU p.D R (q * (p.D.n + 1) + i)))) ?_ (n + 1) ?_
    rotate_left
    · refine ⟨0, pv, by omega, by omega, ?_⟩
      simp only [↓yG, Nat.reduceEqDiff, ↓reduceIte, Int.natCast_add, Int.cast_ofNat_Int, Int.natCast_zero, true_and, and_true, Option.some.injEq, Value.int.injEq, f1, f2, f5, f6, f7, f29, f30]
      exact ⟨hm, hO⟩
    clear hm hO hSq hw4 hio ht0
    rintro k fr2 H5 ⟨i, pv, rfl, hi, i1, i2, i5, i6, i7, i8, i29, i30, i36, i37, hm, hO⟩ J2 hJ2
    have hSq := hO.same
    have hw4 := hSq.wf
    have hio := mine_lt hw4 hm
    by_cases hi1 : i < n + 1
    · obtain ⟨v', hcut, hgv⟩ := hpre (R - q + 1) (by omega)
      have hcut' := hcut _ hSq
      have hcb : (((R - q + 1 : Nat)) : Int) = (R : Int) - q + 1 := by omega
      rw [hcb] at hcut'
      have hslv := hgv.rd.isSl
      have hrdP := hpr _ hSq
      repeat' (first | (exfalso; omega) | refine zA ?_ | refine zB ?_ | refine zC ?_ | refine zD ?_ | refine zE ?_ | refine zF ?_ | refine zG ?_ | refine zH ?_ | refine zI ?_ | refine zJ ?_ | refine zK rfl ?_ | refine zL ?_ | refine zM ?_ | refine zN ?_ | refine zO ?_ | refine zP rfl ?_ | refine zQ ?_ | ((first | refine zR ?_ | refine zS ?_ | refine zT ?_ | skip); intro K k; simp (disch := (first | (simp only [yD2, beq_self_eq_true, Nat.reduceLT, Nat.reduceAdd]; done) | ((fail_if_success (apply Bool.eq_iff_iff.2)); first | omega | (simp only [yD2, beq_self_eq_true, Nat.reduceLT, Nat.reduceAdd] <;> omega)) | fail)) only [↓yS, yT, ↓reduceIte, Nat.reduceEqDiff, Nat.reduceAdd, Nat.reduceMul, reduceCtorEq, Int.reduceToNat, g19, i1, i2, i5, i6, i7, i8, i29, i30, i36, i37, hrdP, hP2, hcut', hslv.len]; refine yC (k _ _ ?_); clear k K) | ((first | refine zU ?_ | refine zV ?_ | refine zW ?_); intro A B C D a b c d; simp only [↓yG, Nat.reduceEqDiff, ↓reduceIte, g19, i1, i2, i5, i6, i7, i8, i29, i30, i36, i37, hrdP, hP2, hcut', hslv.len]; (first | refine zX (a ?_) | refine zY (b ?_) | refine zZ (fun hc => c ?_) (fun hc => d ?_)) <;> clear a b c d A B C D <;> try simp only [yL] at hc) | (refine yA ?_; intro A a; simp only [↓yG, Nat.reduceEqDiff, ↓reduceIte, g19, i1, i2, i5, i6, i7, i8, i29, i30, i36, i37, hrdP, hP2, hcut', hslv.len]; refine yB (a ?_); clear a A) | (refine yD ?_; simp only [gresults, ↓yG, Nat.reduceEqDiff, ↓reduceIte, Option.bind_some, gld_1, gld_n, g19, i1, i2, i5, i6, i7, i8, i29, i30, i36, i37, hrdP, hP2, hcut', hslv.len]; refine ⟨_, rfl, ?_⟩; simp only [gone]))
      refine GW_loop (fun k fr H6 => ∃ (r : Nat), k = R - q + 1 - r ∧ r ≤ R - q + 1 ∧ fr.get 1 = some (.pointer (some ⟨H.len, 0, none⟩)) ∧ fr.get 2 = some (.pointer (some ⟨H.len + 1, 0, none⟩)) ∧ fr.get 5 = some (sv) ∧ fr.get 6 = some (.slice (some ⟨it, 0, none⟩) (R + 1) gct) ∧ fr.get 7 = some (.pointer (some ⟨H3.len, 0, none⟩)) ∧ fr.get 8 = some (.int .i64 q) ∧ fr.get 9 = some (.int .i64 i) ∧ fr.get 10 = some (.int .i64 (minE (fun r => p.D.E r i) r)) ∧ fr.get 29 = some (.int .i64 (R + 1 : Nat)) ∧ fr.get 30 = some (.int .i64 q) ∧ fr.get 36 = some (.int .i64 (n + 1 : Nat)) ∧ fr.get 37 = some (.int .i64 i) ∧ fr.get 46 = some (v') ∧ fr.get 47 = some (.int .i64 (R - q + 1 : Nat)) ∧ fr.get 48 = some (.int .i64 r) ∧ H6 = H5) ?_ (R - q + 1) ?_
      rotate_left
      · refine ⟨0, by omega, by omega, ?_⟩
        simp only [↓yG, Nat.reduceEqDiff, ↓reduceIte, Int.natCast_add, Int.cast_ofNat_Int, Int.natCast_zero, true_and, and_true, Option.some.injEq, Value.int.injEq, i1, i2, i5, i6, i7, i8, i29, i30, i36, i37, minE]
      rintro k fr3 H6 ⟨r, rfl, hr, j1, j2, j5, j6, j7, j8, j9, j10, j29, j30, j36, j37, j46, j47, j48, rfl⟩ J3 hJ3
      by_cases hr1 : r < R - q + 1
      · have hrow : H6.rd (blk v') (ofs v' + r) = some (.slice (some ⟨ids[r]!, 0, none⟩) (n + 1) (n + 1 + 1)) := by
          have h2 := (hgv.same hTw hSq).rd.rd (c := r) (by rw [List.length_take, tab_len]; omega)
          rw [h2, List.getElem?_take, if_pos (by omega), tab_get (by omega) (by omega)]
        have hel := hE _ hSq r i (by omega) (by omega)
        have hms : minE (fun r => p.D.E r i) (r + 1) = lst1 (minE (fun r => p.D.E r i) r) (p.D.E r i) := rfl
        unfold lst1 at hms
        have hix : ((i : Int)).toNat = i := by omega
        generalize minE (fun r => p.D.E r i) r = a at *
        generalize hx : p.D.E r i = x at *
        by_cases hx1 : x = -1
        · rw [if_neg (fun h => h.1 hx1)] at hms
          have hx1' := eq_true hx1
          repeat' (first | (exfalso; omega) | refine zA ?_ | refine zB ?_ | refine zC ?_ | refine zD ?_ | refine zE ?_ | refine zF ?_ | refine zG ?_ | refine zH ?_ | refine zI ?_ | refine zJ ?_ | refine zK rfl ?_ | refine zL ?_ | refine zM ?_ | refine zN ?_ | refine zO ?_ | refine zP rfl ?_ | refine zQ ?_ | ((first | refine zR ?_ | refine zS ?_ | refine zT ?_ | skip); intro K k; simp (disch := (first | (simp only [yD2, beq_self_eq_true, Nat.reduceLT, Nat.reduceAdd]; done) | ((fail_if_success (apply Bool.eq_iff_iff.2)); first | omega | (simp only [yD2, beq_self_eq_true, Nat.reduceLT, Nat.reduceAdd] <;> omega)) | fail)) only [↓yS, yT, ↓reduceIte, Nat.reduceEqDiff, Nat.reduceAdd, Nat.reduceMul, reduceCtorEq, Int.reduceToNat, g19, j1, j2, j5, j6, j7, j8, j9, j10, j29, j30, j36, j37, j46, j47, j48, hslv.ia, hrow, hel, Nat.mul_one]; refine yC (k _ _ ?_); clear k K) | ((first | refine zU ?_ | refine zV ?_ | refine zW ?_); intro A B C D a b c d; simp only [↓yG, Nat.reduceEqDiff, ↓reduceIte, g19, j1, j2, j5, j6, j7, j8, j9, j10, j29, j30, j36, j37, j46, j47, j48, hslv.ia, hrow, hel, Nat.mul_one]; (first | refine zX (a ?_) | refine zY (b ?_) | refine zZ (fun hc => c ?_) (fun hc => d ?_)) <;> clear a b c d A B C D <;> try simp only [yL] at hc) | (refine yA ?_; intro A a; simp only [↓yG, Nat.reduceEqDiff, ↓reduceIte, g19, j1, j2, j5, j6, j7, j8, j9, j10, j29, j30, j36, j37, j46, j47, j48, hslv.ia, hrow, hel, Nat.mul_one]; refine yB (a ?_); clear a A) | (refine yD ?_; simp only [gresults, ↓yG, Nat.reduceEqDiff, ↓reduceIte, Option.bind_some, gld_1, gld_n, g19, j1, j2, j5, j6, j7, j8, j9, j10, j29, j30, j36, j37, j46, j47, j48, hslv.ia, hrow, hel, Nat.mul_one]; refine ⟨_, rfl, ?_⟩; simp only [gone]))
          refine hJ3 _ _ ⟨R - q + 1 - (r + 1), by omega, r + 1, rfl, by omega, ?_⟩
          simp only [↓yG, Nat.reduceEqDiff, ↓reduceIte, Int.natCast_add, Int.cast_ofNat_Int, Int.natCast_zero, true_and, and_true, Option.some.injEq, Value.int.injEq, j1, j2, j5, j6, j7, j8, j9, j10, j29, j30, j36, j37, j46, j47, hms]
        · by_cases ha : a = -1
          · rw [if_pos ⟨hx1, .inl ha⟩] at hms
            repeat' (first | (exfalso; omega) | refine zA ?_ | refine zB ?_ | refine zC ?_ | refine zD ?_ | refine zE ?_ | refine zF ?_ | refine zG ?_ | refine zH ?_ | refine zI ?_ | refine zJ ?_ | refine zK rfl ?_ | refine zL ?_ | refine zM ?_ | refine zN ?_ | refine zO ?_ | refine zP rfl ?_ | refine zQ ?_ | ((first | refine zR ?_ | refine zS ?_ | refine zT ?_ | skip); intro K k; simp (disch := (first | (simp only [yD2, beq_self_eq_true, Nat.reduceLT, Nat.reduceAdd]; done) | ((fail_if_success (apply Bool.eq_iff_iff.2)); first | omega | (simp only [yD2, beq_self_eq_true, Nat.reduceLT, Nat.reduceAdd] <;> omega)) | fail)) only [↓yS, yT, ↓reduceIte, Nat.reduceEqDiff, Nat.reduceAdd, Nat.reduceMul, reduceCtorEq, Int.reduceToNat, g19, j1, j2, j5, j6, j7, j8, j9, j10, j29, j30, j36, j37, j46, j47, j48, hslv.ia, hrow, hel, Nat.mul_one]; refine yC (k _ _ ?_); clear k K) | ((first | refine zU ?_ | refine zV ?_ | refine zW ?_); intro A B C D a b c d; simp only [↓yG, Nat.reduceEqDiff, ↓reduceIte, g19, j1, j2, j5, j6, j7, j8, j9, j10, j29, j30, j36, j37, j46, j47, j48, hslv.ia, hrow, hel, Nat.mul_one]; (first | refine zX (a ?_) | refine zY (b ?_) | refine zZ (fun hc => c ?_) (fun hc => d ?_)) <;> clear a b c d A B C D <;> try simp only [yL] at hc) | (refine yA ?_; intro A a; simp only [↓yG, Nat.reduceEqDiff, ↓reduceIte, g19, j1, j2, j5, j6, j7, j8, j9, j10, j29, j30, j36, j37, j46, j47, j48, hslv.ia, hrow, hel, Nat.mul_one]; refine yB (a ?_); clear a A) | (refine yD ?_; simp only [gresults, ↓yG, Nat.reduceEqDiff, ↓reduceIte, Option.bind_some, gld_1, gld_n, g19, j1, j2, j5, j6, j7, j8, j9, j10, j29, j30, j36, j37, j46, j47, j48, hslv.ia, hrow, hel, Nat.mul_one]; refine ⟨_, rfl, ?_⟩; simp only [gone]))
            refine hJ3 _ _ ⟨R - q + 1 - (r + 1), by omega, r + 1, rfl, by omega, ?_⟩
            simp only [↓yG, Nat.reduceEqDiff, ↓reduceIte, Int.natCast_add, Int.cast_ofNat_Int, Int.natCast_zero, true_and, and_true, Option.some.injEq, Value.int.injEq, j1, j2, j5, j6, j7, j8, j9, j10, j29, j30, j36, j37, j46, j47, hms]
          · by_cases hlt : x < a
            · rw [if_pos ⟨hx1, .inr hlt⟩] at hms
              repeat' (first | (exfalso; omega) | refine zA ?_ | refine zB ?_ | refine zC ?_ | refine zD ?_ | refine zE ?_ | refine zF ?_ | refine zG ?_ | refine zH ?_ | refine zI ?_ | refine zJ ?_ | refine zK rfl ?_ | refine zL ?_ | refine zM ?_ | refine zN ?_ | refine zO ?_ | refine zP rfl ?_ | refine zQ ?_ | ((first | refine zR ?_ | refine zS ?_ | refine zT ?_ | skip); intro K k; simp (disch := (first | (simp only [yD2, beq_self_eq_true, Nat.reduceLT, Nat.reduceAdd]; done) | ((fail_if_success (apply Bool.eq_iff_iff.2)); first | omega | (simp only [yD2, beq_self_eq_true, Nat.reduceLT, Nat.reduceAdd] <;> omega)) | fail)) only [↓yS, yT, ↓reduceIte, Nat.reduceEqDiff, Nat.reduceAdd, Nat.reduceMul, reduceCtorEq, Int.reduceToNat, g19, j1, j2, j5, j6, j7, j8, j9, j10, j29, j30, j36, j37, j46, j47, j48, hslv.ia, hrow, hel, Nat.mul_one]; refine yC (k _ _ ?_); clear k K) | ((first | refine zU ?_ | refine zV ?_ | refine zW ?_); intro A B C D a b c d; simp only [↓yG, Nat.reduceEqDiff, ↓reduceIte, g19, j1, j2, j5, j6, j7, j8, j9, j10, j29, j30, j36, j37, j46, j47, j48, hslv.ia, hrow, hel, Nat.mul_one]; (first | refine zX (a ?_) | refine zY (b ?_) | refine zZ (fun hc => c ?_) (fun hc => d ?_)) <;> clear a b c d A B C D <;> try simp only [yL] at hc) | (refine yA ?_; intro A a; simp only [↓yG, Nat.reduceEqDiff, ↓reduceIte, g19, j1, j2, j5, j6, j7, j8, j9, j10, j29, j30, j36, j37, j46, j47, j48, hslv.ia, hrow, hel, Nat.mul_one]; refine yB (a ?_); clear a A) | (refine yD ?_; simp only [gresults, ↓yG, Nat.reduceEqDiff, ↓reduceIte, Option.bind_some, gld_1, gld_n, g19, j1, j2, j5, j6, j7, j8, j9, j10, j29, j30, j36, j37, j46, j47, j48, hslv.ia, hrow, hel, Nat.mul_one]; refine ⟨_, rfl, ?_⟩; simp only [gone]))
              refine hJ3 _ _ ⟨R - q + 1 - (r + 1), by omega, r + 1, rfl, by omega, ?_⟩
              simp only [↓yG, Nat.reduceEqDiff, ↓reduceIte, Int.natCast_add, Int.cast_ofNat_Int, Int.natCast_zero, true_and, and_true, Option.some.injEq, Value.int.injEq, j1, j2, j5, j6, j7, j8, j9, j10, j29, j30, j36, j37, j46, j47, hms]
            · rw [if_neg (fun h => h.2.elim ha hlt)] at hms
              repeat' (first | (exfalso; omega) | refine zA ?_ | refine zB ?_ | refine zC ?_ | refine zD ?_ | refine zE ?_ | refine zF ?_ | refine zG ?_ | refine zH ?_ | refine zI ?_ | refine zJ ?_ | refine zK rfl ?_ | refine zL ?_ | refine zM ?_ | refine zN ?_ | refine zO ?_ | refine zP rfl ?_ | refine zQ ?_ | ((first | refine zR ?_ | refine zS ?_ | refine zT ?_ | skip); intro K k; simp (disch := (first | (simp only [yD2, beq_self_eq_true, Nat.reduceLT, Nat.reduceAdd]; done) | ((fail_if_success (apply Bool.eq_iff_iff.2)); first | omega | (simp only [yD2, beq_self_eq_true, Nat.reduceLT, Nat.reduceAdd] <;> omega)) | fail)) only [↓yS, yT, ↓reduceIte, Nat.reduceEqDiff, Nat.reduceAdd, Nat.reduceMul, reduceCtorEq, Int.reduceToNat, g19, j1, j2, j5, j6, j7, j8, j9, j10, j29, j30, j36, j37, j46, j47, j48, hslv.ia, hrow, hel, Nat.mul_one]; refine yC (k _ _ ?_); clear k K) | ((first | refine zU ?_ | refine zV ?_ | refine zW ?_); intro A B C D a b c d; simp only [↓yG, Nat.reduceEqDiff, ↓reduceIte, g19, j1, j2, j5, j6, j7, j8, j9, j10, j29, j30, j36, j37, j46, j47, j48, hslv.ia, hrow, hel, Nat.mul_one]; (first | refine zX (a ?_) | refine zY (b ?_) | refine zZ (fun hc => c ?_) (fun hc => d ?_)) <;> clear a b c d A B C D <;> try simp only [yL] at hc) | (refine yA ?_; intro A a; simp only [↓yG, Nat.reduceEqDiff, ↓reduceIte, g19, j1, j2, j5, j6, j7, j8, j9, j10, j29, j30, j36, j37, j46, j47, j48, hslv.ia, hrow, hel, Nat.mul_one]; refine yB (a ?_); clear a A) | (refine yD ?_; simp only [gresults, ↓yG, Nat.reduceEqDiff, ↓reduceIte, Option.bind_some, gld_1, gld_n, g19, j1, j2, j5, j6, j7, j8, j9, j10, j29, j30, j36, j37, j46, j47, j48, hslv.ia, hrow, hel, Nat.mul_one]; refine ⟨_, rfl, ?_⟩; simp only [gone]))
              refine hJ3 _ _ ⟨R - q + 1 - (r + 1), by omega, r + 1, rfl, by omega, ?_⟩
              simp only [↓yG, Nat.reduceEqDiff, ↓reduceIte, Int.natCast_add, Int.cast_ofNat_Int, Int.natCast_zero, true_and, and_true, Option.some.injEq, Value.int.injEq, j1, j2, j5, j6, j7, j8, j9, j10, j29, j30, j36, j37, j46, j47, hms]
      · obtain rfl : r = R - q + 1 := by omega
        rw [minE_P hG] at j10
        have er := fun o => mine_rd (o := o) hm
        have hsum : q * (p.D.n + 1) + i < 100000 := by
          have : q * (p.D.n + 1) ≤ 5 * (p.D.n + 1) := Nat.mul_le_mul_right _ (by omega)
          omega
        have hpx := potU_succ p.D R q i (by omega)
        generalize hpv : p.D.P (R - q) i = px at *
        repeat' (first | (exfalso; omega) | refine zA ?_ | refine zB ?_ | refine zC ?_ | refine zD ?_ | refine zE ?_ | refine zF ?_ | refine zG ?_ | refine zH ?_ | refine zI ?_ | refine zJ ?_ | refine zK rfl ?_ | refine zL ?_ | refine zM ?_ | refine zN ?_ | refine zO ?_ | refine zP rfl ?_ | refine zQ ?_ | ((first | refine zR ?_ | refine zS ?_ | refine zT ?_ | skip); intro K k; simp (disch := (first | (simp only [yD2, beq_self_eq_true, Nat.reduceLT, Nat.reduceAdd]; done) | ((fail_if_success (apply Bool.eq_iff_iff.2)); first | omega | (simp only [yD2, beq_self_eq_true, Nat.reduceLT, Nat.reduceAdd] <;> omega)) | fail)) only [↓yS, yT, ↓reduceIte, Nat.reduceEqDiff, Nat.reduceAdd, Nat.reduceMul, reduceCtorEq, Int.reduceToNat, g19, j1, j2, j5, j6, j7, j8, j9, j10, j29, j30, j36, j37, j46, j47, j48, er, bkC_2]; refine yC (k _ _ ?_); clear k K) | ((first | refine zU ?_ | refine zV ?_ | refine zW ?_); intro A B C D a b c d; simp only [↓yG, Nat.reduceEqDiff, ↓reduceIte, g19, j1, j2, j5, j6, j7, j8, j9, j10, j29, j30, j36, j37, j46, j47, j48, er, bkC_2]; (first | refine zX (a ?_) | refine zY (b ?_) | refine zZ (fun hc => c ?_) (fun hc => d ?_)) <;> clear a b c d A B C D <;> try simp only [yL] at hc) | (refine yA ?_; intro A a; simp only [↓yG, Nat.reduceEqDiff, ↓reduceIte, g19, j1, j2, j5, j6, j7, j8, j9, j10, j29, j30, j36, j37, j46, j47, j48, er, bkC_2]; refine yB (a ?_); clear a A) | (refine yD ?_; simp only [gresults, ↓yG, Nat.reduceEqDiff, ↓reduceIte, Option.bind_some, gld_1, gld_n, g19, j1, j2, j5, j6, j7, j8, j9, j10, j29, j30, j36, j37, j46, j47, j48, er, bkC_2]; refine ⟨_, rfl, ?_⟩; simp only [gone]))
        have hone : ints .i64 ((List.replicate 1 0).set 0 px) = [.int .i64 px] := rfl
        refine Gw_s fun K' hK' => ?_
        simp (disch := (first | (simp only [yD2, beq_self_eq_true, Nat.reduceLT, Nat.reduceAdd]; done) | ((fail_if_success (apply Bool.eq_iff_iff.2)); first | omega | (simp only [yD2, beq_self_eq_true, Nat.reduceLT, Nat.reduceAdd] <;> omega)) | fail)) only [↓yS, yT, ↓reduceIte, Nat.reduceEqDiff, Nat.reduceAdd, Nat.reduceMul, reduceCtorEq, Int.reduceToNat, j1, j2, j5, j6, j7, j8, j9, j10, j29, j30, j36, j37, hone]
        obtain ⟨pv', H7, e, hO7, hB⟩ := hO.app1 (b := 8) (by decide) (by decide) (news := [.int .i64 px]) rfl (by omega) (by omega)
        refine G1_eq e (hK' _ _ ?_)
        clear hK' K' e
        have hm7 : H7.mine H3.len = some (bkC (.slice none 0 0) (-1) pv, 0) := by rw [hB.mine hio (fun ha => hO.off hm _ ha rfl)]; exact hm
        have hset := @bk_set2 (.slice none 0 0) pv pv' (-1) hO7.fl
        have hw7 := hO7.same.wf
        repeat' (first | (exfalso; omega) | refine zA ?_ | refine zB ?_ | refine zC ?_ | refine zD ?_ | refine zE ?_ | refine zF ?_ | refine zG ?_ | refine zH ?_ | refine zI ?_ | refine zJ ?_ | refine zK rfl ?_ | refine zL ?_ | refine zM ?_ | refine zN ?_ | refine zO ?_ | refine zP rfl ?_ | refine zQ ?_ | ((first | refine zR ?_ | refine zS ?_ | refine zT ?_ | skip); intro K k; simp (disch := (first | (simp only [yD2, beq_self_eq_true, Nat.reduceLT, Nat.reduceAdd]; done) | ((fail_if_success (apply Bool.eq_iff_iff.2)); first | omega | (simp only [yD2, beq_self_eq_true, Nat.reduceLT, Nat.reduceAdd] <;> omega)) | fail)) only [↓yS, yT, ↓reduceIte, Nat.reduceEqDiff, Nat.reduceAdd, Nat.reduceMul, reduceCtorEq, Int.reduceToNat, g19, j1, j2, j5, j6, j7, j8, j9, j10, j29, j30, j36, j37, j46, j47, j48, hm7, hset]; refine yC (k _ _ ?_); clear k K) | ((first | refine zU ?_ | refine zV ?_ | refine zW ?_); intro A B C D a b c d; simp only [↓yG, Nat.reduceEqDiff, ↓reduceIte, g19, j1, j2, j5, j6, j7, j8, j9, j10, j29, j30, j36, j37, j46, j47, j48, hm7, hset]; (first | refine zX (a ?_) | refine zY (b ?_) | refine zZ (fun hc => c ?_) (fun hc => d ?_)) <;> clear a b c d A B C D <;> try simp only [yL] at hc) | (refine yA ?_; intro A a; simp only [↓yG, Nat.reduceEqDiff, ↓reduceIte, g19, j1, j2, j5, j6, j7, j8, j9, j10, j29, j30, j36, j37, j46, j47, j48, hm7, hset]; refine yB (a ?_); clear a A) | (refine yD ?_; simp only [gresults, ↓yG, Nat.reduceEqDiff, ↓reduceIte, Option.bind_some, gld_1, gld_n, g19, j1, j2, j5, j6, j7, j8, j9, j10, j29, j30, j36, j37, j46, j47, j48, hm7, hset]; refine ⟨_, rfl, ?_⟩; simp only [gone]))
        refine hJ2 _ _ ⟨n + 1 - (i + 1), by omega, i + 1, pv', rfl, by omega, ?_⟩
        simp only [↓yG, Nat.reduceEqDiff, ↓reduceIte, Int.natCast_add, Int.cast_ofNat_Int, Int.natCast_zero, true_and, and_true, Option.some.injEq, Value.int.injEq, j1, j2, j5, j6, j7, j8, j29, j30, j36]
        refine ⟨mine_put_same (mine_obj hm7).1, ?_⟩
        rw [show q * (p.D.n + 1) + (i + 1) = q * (p.D.n + 1) + i + 1 from rfl, hpx]
        refine hO7.but (S := fun k => k = H3.len) ((But.refl (S := fun k => k = H3.len) hw7).put rfl (mine_lt hw7 hm7) _) (fun k hk e => by omega) (hO7.off hm7)
    · obtain rfl : i = n + 1 := by omega
      repeat' (first | (exfalso; omega) | refine zA ?_ | refine zB ?_ | refine zC ?_ | refine zD ?_ | refine zE ?_ | refine zF ?_ | refine zG ?_ | refine zH ?_ | refine zI ?_ | refine zJ ?_ | refine zK rfl ?_ | refine zL ?_ | refine zM ?_ | refine zN ?_ | refine zO ?_ | refine zP rfl ?_ | refine zQ ?_ | ((first | refine zR ?_ | refine zS ?_ | refine zT ?_ | skip); intro K k; simp (disch := (first | (simp only [yD2, beq_self_eq_true, Nat.reduceLT, Nat.reduceAdd]; done) | ((fail_if_success (apply Bool.eq_iff_iff.2)); first | omega | (simp only [yD2, beq_self_eq_true, Nat.reduceLT, Nat.reduceAdd] <;> omega)) | fail)) only [↓yS, yT, ↓reduceIte, Nat.reduceEqDiff, Nat.reduceAdd, Nat.reduceMul, reduceCtorEq, Int.reduceToNat, g19, i1, i2, i5, i6, i7, i8, i29, i30, i36, i37]; refine yC (k _ _ ?_); clear k K) | ((first | refine zU ?_ | refine zV ?_ | refine zW ?_); intro A B C D a b c d; simp only [↓yG, Nat.reduceEqDiff, ↓reduceIte, g19, i1, i2, i5, i6, i7, i8, i29, i30, i36, i37]; (first | refine zX (a ?_) | refine zY (b ?_) | refine zZ (fun hc => c ?_) (fun hc => d ?_)) <;> clear a b c d A B C D <;> try simp only [yL] at hc) | (refine yA ?_; intro A a; simp only [↓yG, Nat.reduceEqDiff, ↓reduceIte, g19, i1, i2, i5, i6, i7, i8, i29, i30, i36, i37]; refine yB (a ?_); clear a A) | (refine yD ?_; simp only [gresults, ↓yG, Nat.reduceEqDiff, ↓reduceIte, Option.bind_some, gld_1, gld_n, g19, i1, i2, i5, i6, i7, i8, i29, i30, i36, i37]; refine ⟨_, rfl, ?_⟩; simp only [gone]))
      refine hJ _ _ ⟨R + 1 - (q + 1), by omega, q + 1, pv, rfl, by omega, ?_⟩
      simp only [↓yG, Nat.reduceEqDiff, ↓reduceIte, Int.natCast_add, Int.cast_ofNat_Int, Int.natCast_zero, true_and, and_true, Option.some.injEq, Value.int.injEq, i1, i2, i5, i6, i7, i29]
      refine ⟨hm, ?_⟩
      have e1 : (q + 1) * (p.D.n + 1) + 0 = q * (p.D.n + 1) + (n + 1) := by rw [Nat.add_mul, Nat.one_mul, hD]; omega
      rw [e1]; exact hO
  · obtain rfl : q = R + 1 := by omega
    clear hJ
    have hcnt : 0 < (R + 1) * (p.D.n + 1) := Nat.mul_pos (by omega) (by omega)
    rw [Nat.add_zero] at hO
    have hIR := hO.ir
    have hslp := hO.rd.isSl
    have e0 : H4.rd (blk pv) (ofs pv) = some (.int .i64 (p.D.P R 0)) := by
      have := hO.rd.rd (c := 0) (by rw [ints_length, potU_len]; exact hcnt)
      rw [potU_0 _ _ hcnt] at this
      exact this
    have er := fun o => mine_rd (o := o) hm
    have hset := @bk_set1 (.slice none 0 0) pv (-1) (p.D.P R 0)
    have hflp : flatV pv = true := hO.fl
    have hcz : ((R + 1) * (p.D.n + 1) : Nat) > 0 := hcnt
    generalize hct : (R + 1) * (p.D.n + 1) = cnt at *
    have hPg := P_ge hG R 0
    have hm2 : H4.mine (H.len + 1) = some ([.slice none 0 0, .int .i64 0, .slice none 0 0], 0) := by rw [hSq.mine hinr]; exact hmr
    have hB4 : But (fun k => k = H3.len) H4 (H4.put H3.len (.cells (bkC (.slice none 0 0) (p.D.P R 0) pv) 0 true)) := (But.refl (S := fun k => k = H3.len) hw4).put rfl hio _
    have hO5 := hO.but hB4 (fun k hk e => by omega) (hO.off hm)
    have hm5 : (H4.put H3.len (.cells (bkC (.slice none 0 0) (p.D.P R 0) pv) 0 true)).mine H3.len = some (bkC (.slice none 0 0) (p.D.P R 0) pv, 0) := mine_put_same (mine_obj hm).1
    have hm25 : (H4.put H3.len (.cells (bkC (.slice none 0 0) (p.D.P R 0) pv) 0 true)).mine (H.len + 1) = some ([.slice none 0 0, .int .i64 0, .slice none 0 0], 0) := by rw [mine_put_ne (by omega)]; exact hm2
    by_cases hc : p.D.P R 0 = -1
    · have hrr : ((H4.put H3.len (.cells (bkC (.slice none 0 0) (p.D.P R 0) pv) 0 true)).put (H.len + 1) (.cells [.slice none 0 0, .int .i64 0, .slice none 0 0] 0 true)).rdn (H.len + 1) 0 3 = some (.agg (bkC (.slice none 0 0) 0 (.slice none 0 0)).toArray) := rdn_put_all rfl
      repeat' (first | (exfalso; omega) | refine zA ?_ | refine zB ?_ | refine zC ?_ | refine zD ?_ | refine zE ?_ | refine zF ?_ | refine zG ?_ | refine zH ?_ | refine zI ?_ | refine zJ ?_ | refine zK rfl ?_ | refine zL ?_ | refine zM ?_ | refine zN ?_ | refine zO ?_ | refine zP rfl ?_ | refine zQ ?_ | ((first | refine zR ?_ | refine zS ?_ | refine zT ?_ | skip); intro K k; simp (disch := (first | (simp only [yD2, beq_self_eq_true, Nat.reduceLT, Nat.reduceAdd]; done) | ((fail_if_success (apply Bool.eq_iff_iff.2)); first | omega | (simp only [yD2, beq_self_eq_true, Nat.reduceLT, Nat.reduceAdd] <;> omega)) | fail)) only [↓yS, yT, ↓reduceIte, Nat.reduceEqDiff, Nat.reduceAdd, Nat.reduceMul, reduceCtorEq, Int.reduceToNat, g19, f1, f2, f5, f6, f7, f29, f30, er, bkC_2, hslp.ia, e0, Int.toNat_zero, Nat.zero_mul, Nat.add_zero, hm, hset, hm25, hsz, hrr, mine_put_same, rd_put_same, bkC_1]; refine yC (k _ _ ?_); clear k K) | ((first | refine zU ?_ | refine zV ?_ | refine zW ?_); intro A B C D a b c d; simp only [↓yG, Nat.reduceEqDiff, ↓reduceIte, g19, f1, f2, f5, f6, f7, f29, f30, er, bkC_2, hslp.ia, e0, Int.toNat_zero, Nat.zero_mul, Nat.add_zero, hm, hset, hm25, hsz, hrr, mine_put_same, rd_put_same, bkC_1]; (first | refine zX (a ?_) | refine zY (b ?_) | refine zZ (fun hc => c ?_) (fun hc => d ?_)) <;> clear a b c d A B C D <;> try simp only [yL] at hc) | (refine yA ?_; intro A a; simp only [↓yG, Nat.reduceEqDiff, ↓reduceIte, g19, f1, f2, f5, f6, f7, f29, f30, er, bkC_2, hslp.ia, e0, Int.toNat_zero, Nat.zero_mul, Nat.add_zero, hm, hset, hm25, hsz, hrr, mine_put_same, rd_put_same, bkC_1]; refine yB (a ?_); clear a A) | (refine yD ?_; simp only [gresults, ↓yG, Nat.reduceEqDiff, ↓reduceIte, Option.bind_some, gld_1, gld_n, g19, f1, f2, f5, f6, f7, f29, f30, er, bkC_2, hslp.ia, e0, Int.toNat_zero, Nat.zero_mul, Nat.add_zero, hm, hset, hm25, hsz, hrr, mine_put_same, rd_put_same, bkC_1]; refine ⟨_, rfl, ?_⟩; simp only [gone]))
      refine hPost _ _ ⟨⟨_, _, [], 0, 11, rfl, IR.nil, ?_, ?_⟩, (hS''.trans hO5.same).put (by omega) (mine_lt hO5.same.wf hm25) _⟩
      · rw [if_neg (by decide)]; exact IR.nil
      · rw [hBo]; exact .inr (.inl ⟨h0, hc, rfl, rfl, rfl⟩)
    repeat' (first | (exfalso; omega) | refine zA ?_ | refine zB ?_ | refine zC ?_ | refine zD ?_ | refine zE ?_ | refine zF ?_ | refine zG ?_ | refine zH ?_ | refine zI ?_ | refine zJ ?_ | refine zK rfl ?_ | refine zL ?_ | refine zM ?_ | refine zN ?_ | refine zO ?_ | refine zP rfl ?_ | refine zQ ?_ | ((first | refine zR ?_ | refine zS ?_ | refine zT ?_ | skip); intro K k; simp (disch := (first | (simp only [yD2, beq_self_eq_true, Nat.reduceLT, Nat.reduceAdd]; done) | ((fail_if_success (apply Bool.eq_iff_iff.2)); first | omega | (simp only [yD2, beq_self_eq_true, Nat.reduceLT, Nat.reduceAdd] <;> omega)) | fail)) only [↓yS, yT, ↓reduceIte, Nat.reduceEqDiff, Nat.reduceAdd, Nat.reduceMul, reduceCtorEq, Int.reduceToNat, g19, f1, f2, f5, f6, f7, f29, f30, er, bkC_2, hslp.ia, e0, Int.toNat_zero, Nat.zero_mul, Nat.add_zero, hm, hset, mine_put_same, rd_put_same, bkC_1]; refine yC (k _ _ ?_); clear k K) | ((first | refine zU ?_ | refine zV ?_ | refine zW ?_); intro A B C D a b c d; simp only [↓yG, Nat.reduceEqDiff, ↓reduceIte, g19, f1, f2, f5, f6, f7, f29, f30, er, bkC_2, hslp.ia, e0, Int.toNat_zero, Nat.zero_mul, Nat.add_zero, hm, hset, mine_put_same, rd_put_same, bkC_1]; (first | refine zX (a ?_) | refine zY (b ?_) | refine zZ (fun hc => c ?_) (fun hc => d ?_)) <;> clear a b c d A B C D <;> try simp only [yL] at hc) | (refine yA ?_; intro A a; simp only [↓yG, Nat.reduceEqDiff, ↓reduceIte, g19, f1, f2, f5, f6, f7, f29, f30, er, bkC_2, hslp.ia, e0, Int.toNat_zero, Nat.zero_mul, Nat.add_zero, hm, hset, mine_put_same, rd_put_same, bkC_1]; refine yB (a ?_); clear a A) | (refine yD ?_; simp only [gresults, ↓yG, Nat.reduceEqDiff, ↓reduceIte, Option.bind_some, gld_1, gld_n, g19, f1, f2, f5, f6, f7, f29, f30, er, bkC_2, hslp.ia, e0, Int.toNat_zero, Nat.zero_mul, Nat.add_zero, hm, hset, mine_put_same, rd_put_same, bkC_1]; refine ⟨_, rfl, ?_⟩; simp only [gone]))
    generalize H4.put H3.len (.cells (bkC (.slice none 0 0) (p.D.P R 0) pv) 0 true) = H5 at *
    have hS5 := hO5.same
    generalize hcc : p.D.P R 0 = c at *
    obtain ⟨l0, hl0, hp0⟩ := (P_spec hG R 0).mem (by rw [hcc]; exact hc)
    rw [hcc] at hp0
    have hEl : p.D.E l0.length 0 = c := by
      have h1 := (E_spec hG l0.length 0).le ⟨l0, rfl, hp0⟩
      obtain ⟨l1, h2, h3⟩ := (E_spec hG l0.length 0).mem (by omega)
      have h4 := (P_spec hG R 0).le ⟨l1, by omega, h3⟩
      rw [hcc] at h4; omega
    have hRl := hl0
    refine GW_loop (fun k fr H6 => ∃ (r : Nat), k = l0.length - r ∧ r ≤ l0.length ∧ fr.get 2 = some (.pointer (some ⟨H.len + 1, 0, none⟩)) ∧ fr.get 5 = some (sv) ∧ fr.get 6 = some (.slice (some ⟨it, 0, none⟩) (R + 1) gct) ∧ fr.get 7 = some (.pointer (some ⟨H3.len, 0, none⟩)) ∧ fr.get 14 = some (.int .i64 r) ∧ H6 = H5 ∧ ∀ r', r' < r → p.D.E r' 0 ≠ c) ?_ l0.length ?_
    rotate_left
    · refine ⟨0, by omega, by omega, ?_⟩
      simp only [↓yG, Nat.reduceEqDiff, ↓reduceIte, Int.natCast_add, Int.cast_ofNat_Int, Int.natCast_zero, true_and, and_true, Option.some.injEq, Value.int.injEq, f1, f2, f5, f6, f7, f29, f30]
      first | exact ⟨rfl, fun r' h => absurd h (Nat.not_lt_zero _)⟩ | exact fun r' h => absurd h (Nat.not_lt_zero _)
    clear f1 f2 f5 f6 f7 f29 f30 er e0 hset hm hO hSq hw4 hio hm2 hB4 hslp
    rintro k fr2 H6 ⟨r, rfl, hr, i2, i5, i6, i7, i14, rfl, hno⟩ J hJ
    have ht0 := hTr _ hS5 r (by omega)
    have hel := hE _ hS5 r 0 (by omega) (by omega)
    have er := fun o => mine_rd (o := o) hm5
    by_cases hrc : p.D.E r 0 = c
    case neg =>
      have hlt : r < l0.length := by
        rcases Nat.lt_or_eq_of_le hr with h | h
        · exact h
        · exact absurd (by rw [h]; exact hEl) hrc
      have hrc' : (p.D.E r 0 = c) = False := eq_false hrc
      repeat' (first | (exfalso; omega) | refine zA ?_ | refine zB ?_ | refine zC ?_ | refine zD ?_ | refine zE ?_ | refine zF ?_ | refine zG ?_ | refine zH ?_ | refine zI ?_ | refine zJ ?_ | refine zK rfl ?_ | refine zL ?_ | refine zM ?_ | refine zN ?_ | refine zO ?_ | refine zP rfl ?_ | refine zQ ?_ | ((first | refine zR ?_ | refine zS ?_ | refine zT ?_ | skip); intro K k; simp (disch := (first | (simp only [yD2, beq_self_eq_true, Nat.reduceLT, Nat.reduceAdd]; done) | ((fail_if_success (apply Bool.eq_iff_iff.2)); first | omega | (simp only [yD2, beq_self_eq_true, Nat.reduceLT, Nat.reduceAdd] <;> omega)) | fail)) only [↓yS, yT, ↓reduceIte, Nat.reduceEqDiff, Nat.reduceAdd, Nat.reduceMul, reduceCtorEq, Int.reduceToNat, g19, i2, i5, i6, i7, i14, ht0, hel, er, bkC_1, hrc']; refine yC (k _ _ ?_); clear k K) | ((first | refine zU ?_ | refine zV ?_ | refine zW ?_); intro A B C D a b c d; simp only [↓yG, Nat.reduceEqDiff, ↓reduceIte, g19, i2, i5, i6, i7, i14, ht0, hel, er, bkC_1, hrc']; (first | refine zX (a ?_) | refine zY (b ?_) | refine zZ (fun hc => c ?_) (fun hc => d ?_)) <;> clear a b c d A B C D <;> try simp only [yL] at hc) | (refine yA ?_; intro A a; simp only [↓yG, Nat.reduceEqDiff, ↓reduceIte, g19, i2, i5, i6, i7, i14, ht0, hel, er, bkC_1, hrc']; refine yB (a ?_); clear a A) | (refine yD ?_; simp only [gresults, ↓yG, Nat.reduceEqDiff, ↓reduceIte, Option.bind_some, gld_1, gld_n, g19, i2, i5, i6, i7, i14, ht0, hel, er, bkC_1, hrc']; refine ⟨_, rfl, ?_⟩; simp only [gone]))
      refine hJ _ _ ⟨l0.length - (r + 1), by omega, r + 1, rfl, by omega, ?_⟩
      simp only [↓yG, Nat.reduceEqDiff, ↓reduceIte, Int.natCast_add, Int.cast_ofNat_Int, Int.natCast_zero, true_and, and_true, Option.some.injEq, Value.int.injEq, i2, i5, i6, i7]
      refine fun r' h => ?_
      rcases Nat.lt_or_eq_of_le (Nat.le_of_lt_succ h) with h | rfl
      · exact hno r' h
      · exact hrc
    have hrc' : (p.D.E r 0 = c) = True := eq_true hrc
    clear hJ
    repeat' (first | (exfalso; omega) | refine zA ?_ | refine zB ?_ | refine zC ?_ | refine zD ?_ | refine zE ?_ | refine zF ?_ | refine zG ?_ | refine zH ?_ | refine zI ?_ | refine zJ ?_ | refine zK rfl ?_ | refine zL ?_ | refine zM ?_ | refine zN ?_ | refine zO ?_ | refine zP rfl ?_ | refine zQ ?_ | ((first | refine zR ?_ | refine zS ?_ | refine zT ?_ | skip); intro K k; simp (disch := (first | (simp only [yD2, beq_self_eq_true, Nat.reduceLT, Nat.reduceAdd]; done) | ((fail_if_success (apply Bool.eq_iff_iff.2)); first | omega | (simp only [yD2, beq_self_eq_true, Nat.reduceLT, Nat.reduceAdd] <;> omega)) | fail)) only [↓yS, yT, ↓reduceIte, Nat.reduceEqDiff, Nat.reduceAdd, Nat.reduceMul, reduceCtorEq, Int.reduceToNat, g19, i2, i5, i6, i7, i14, ht0, hel, er, bkC_1, hrc']; refine yC (k _ _ ?_); clear k K) | ((first | refine zU ?_ | refine zV ?_ | refine zW ?_); intro A B C D a b c d; simp only [↓yG, Nat.reduceEqDiff, ↓reduceIte, g19, i2, i5, i6, i7, i14, ht0, hel, er, bkC_1, hrc']; (first | refine zX (a ?_) | refine zY (b ?_) | refine zZ (fun hc => c ?_) (fun hc => d ?_)) <;> clear a b c d A B C D <;> try simp only [yL] at hc) | (refine yA ?_; intro A a; simp only [↓yG, Nat.reduceEqDiff, ↓reduceIte, g19, i2, i5, i6, i7, i14, ht0, hel, er, bkC_1, hrc']; refine yB (a ?_); clear a A) | (refine yD ?_; simp only [gresults, ↓yG, Nat.reduceEqDiff, ↓reduceIte, Option.bind_some, gld_1, gld_n, g19, i2, i5, i6, i7, i14, ht0, hel, er, bkC_1, hrc']; refine ⟨_, rfl, ?_⟩; simp only [gone]))
    clear ht0 hel er
    have hbrk := fun l (h : Grd p.D r 0 l) => h.brk hG (R := R) (by omega) hc hcc hrc hno
    refine GW_loop (fun k fr H7 => ∃ (m i : Nat) (pre : List Nat) (ev : Value), k = m ∧ fr.get 2 = some (.pointer (some ⟨H.len + 1, 0, none⟩)) ∧ fr.get 5 = some (sv) ∧ fr.get 6 = some (.slice (some ⟨it, 0, none⟩) (R + 1) gct) ∧ fr.get 7 = some (.pointer (some ⟨H3.len, 0, none⟩)) ∧ fr.get 14 = some (.int .i64 m) ∧ fr.get 15 = some (.int .i64 i) ∧ H7.mine H3.len = some (bkC ev c pv, 0) ∧ OS 1 1 H3 H7 ev pre.length (ints .i64 (natsI pre)) ∧ (∀ a ∈ idOf ev, H6.len ≤ a) ∧ OS 1 1 H3 H7 pv cnt (ints .i64 (potU p.D R cnt)) ∧ H6.len ≤ H7.len ∧ p.D.E m i ≠ -1 ∧ i ≤ n ∧ pre.length + m = r ∧ (∀ l, Grd p.D m i l → Grd p.D r 0 (pre ++ l))) ?_ r ?_
    rotate_left
    · refine ⟨r, 0, [], .slice none 0 0, rfl, ?_⟩
      simp only [↓yG, Nat.reduceEqDiff, ↓reduceIte, Int.natCast_add, Int.cast_ofNat_Int, Int.natCast_zero, true_and, and_true, Option.some.injEq, Value.int.injEq, i2, i5, i6, i7, i14]
      exact ⟨hm5, OS.nil hS5, by simp [idOf], hO5, by omega, by rw [hrc]; exact hc, by omega, by simp, fun l h => h⟩
    clear i2 i5 i6 i7 i14
    rintro m fr3 H7 ⟨_, i, pre, ev, rfl, i2, i5, i6, i7, i14, i15, hm7, hO7, hid7, hP7, hl7, hEm, hi, hpm, hgr⟩ J hJ
    have hS7 := hO7.same
    have hw7 := hS7.wf
    have hio7 := mine_lt hw7 hm7
    cases m with
    | zero =>
      have hm27 : H7.mine (H.len + 1) = some ([.slice none 0 0, .int .i64 0, .slice none 0 0], 0) := by rw [hS7.mine hinr]; exact hmr
      have hld : H7.rdn H3.len 0 3 = some (.agg (bkC ev c pv).toArray) := by
        simp only [GHeap.rdn, mine_cs hm7, Option.bind_some]; rfl
      have hst := gsetn_bk (cs := [.slice none 0 0, .int .i64 0, .slice none 0 0]) (c := c) rfl hO7.fl hP7.fl
      have hrr : (H7.put (H.len + 1) (.cells (bkC ev c pv) 0 true)).rdn (H.len + 1) 0 3 = some (.agg (bkC ev c pv).toArray) := rdn_put_all rfl
      repeat' (first | (exfalso; omega) | refine zA ?_ | refine zB ?_ | refine zC ?_ | refine zD ?_ | refine zE ?_ | refine zF ?_ | refine zG ?_ | refine zH ?_ | refine zI ?_ | refine zJ ?_ | refine zK rfl ?_ | refine zL ?_ | refine zM ?_ | refine zN ?_ | refine zO ?_ | refine zP rfl ?_ | refine zQ ?_ | ((first | refine zR ?_ | refine zS ?_ | refine zT ?_ | skip); intro K k; simp (disch := (first | (simp only [yD2, beq_self_eq_true, Nat.reduceLT, Nat.reduceAdd]; done) | ((fail_if_success (apply Bool.eq_iff_iff.2)); first | omega | (simp only [yD2, beq_self_eq_true, Nat.reduceLT, Nat.reduceAdd] <;> omega)) | fail)) only [↓yS, yT, ↓reduceIte, Nat.reduceEqDiff, Nat.reduceAdd, Nat.reduceMul, reduceCtorEq, Int.reduceToNat, g19, i2, i5, i6, i7, i14, i15, hld, hm27, hst, hrr]; refine yC (k _ _ ?_); clear k K) | ((first | refine zU ?_ | refine zV ?_ | refine zW ?_); intro A B C D a b c d; simp only [↓yG, Nat.reduceEqDiff, ↓reduceIte, g19, i2, i5, i6, i7, i14, i15, hld, hm27, hst, hrr]; (first | refine zX (a ?_) | refine zY (b ?_) | refine zZ (fun hc => c ?_) (fun hc => d ?_)) <;> clear a b c d A B C D <;> try simp only [yL] at hc) | (refine yA ?_; intro A a; simp only [↓yG, Nat.reduceEqDiff, ↓reduceIte, g19, i2, i5, i6, i7, i14, i15, hld, hm27, hst, hrr]; refine yB (a ?_); clear a A) | (refine yD ?_; simp only [gresults, ↓yG, Nat.reduceEqDiff, ↓reduceIte, Option.bind_some, gld_1, gld_n, g19, i2, i5, i6, i7, i14, i15, hld, hm27, hst, hrr]; refine ⟨_, rfl, ?_⟩; simp only [gone]))
      have hB : But (fun k => k = H.len + 1) H7 (H7.put (H.len + 1) (.cells (bkC ev c pv) 0 true)) := (But.refl (S := fun k => k = H.len + 1) hw7).put rfl (mine_lt hw7 hm27) _
      have hS7' : Same H H7 := hS''.trans hS7
      have hge : ∀ {v : Value} {n : Nat} {xs : List Value}, OS 1 1 H3 H7 v n xs → OS 1 1 H H7 v n xs := fun h => ⟨hS7', h.own, h.young.imp id fun h => Nat.le_trans hS''.len h⟩
      have hof : ∀ {v : Value} {n : Nat} {xs : List Value}, OS 1 1 H3 H7 v n xs → ∀ a ∈ idOf v, ¬ a = H.len + 1 := fun h a ha e => by
        have := (h.ids ha).1; omega
      have hev := (hge hO7).but hB (fun k hk e => by omega) (hof hO7)
      have hpv := (hge hP7).but hB (fun k hk e => by omega) (hof hP7)
      refine hPost _ _ ⟨⟨ev, pv, pre, c, 0, rfl, hev.ir, ?_, ?_⟩, hev.same⟩
      · rw [if_pos rfl, hPt]; exact hpv.ir
      · rw [hBo]
        have := hbrk _ (hgr [] .nil)
        rw [List.append_nil] at this
        exact .inr (.inr ⟨h0, rfl, rfl, this⟩)
    | succ m =>
      obtain ⟨j0, hok0, hcd0⟩ := cand_ex hG hEm
      have hjn : j0 ≤ n := by have := hok0.2.1; rw [hD] at this; exact this
      repeat' (first | (exfalso; omega) | refine zA ?_ | refine zB ?_ | refine zC ?_ | refine zD ?_ | refine zE ?_ | refine zF ?_ | refine zG ?_ | refine zH ?_ | refine zI ?_ | refine zJ ?_ | refine zK rfl ?_ | refine zL ?_ | refine zM ?_ | refine zN ?_ | refine zO ?_ | refine zP rfl ?_ | refine zQ ?_ | ((first | refine zR ?_ | refine zS ?_ | refine zT ?_ | skip); intro K k; simp (disch := (first | (simp only [yD2, beq_self_eq_true, Nat.reduceLT, Nat.reduceAdd]; done) | ((fail_if_success (apply Bool.eq_iff_iff.2)); first | omega | (simp only [yD2, beq_self_eq_true, Nat.reduceLT, Nat.reduceAdd] <;> omega)) | fail)) only [↓yS, yT, ↓reduceIte, Nat.reduceEqDiff, Nat.reduceAdd, Nat.reduceMul, reduceCtorEq, Int.reduceToNat, g19, i2, i5, i6, i7, i14, i15]; refine yC (k _ _ ?_); clear k K) | ((first | refine zU ?_ | refine zV ?_ | refine zW ?_); intro A B C D a b c d; simp only [↓yG, Nat.reduceEqDiff, ↓reduceIte, g19, i2, i5, i6, i7, i14, i15]; (first | refine zX (a ?_) | refine zY (b ?_) | refine zZ (fun hc => c ?_) (fun hc => d ?_)) <;> clear a b c d A B C D <;> try simp only [yL] at hc) | (refine yA ?_; intro A a; simp only [↓yG, Nat.reduceEqDiff, ↓reduceIte, g19, i2, i5, i6, i7, i14, i15]; refine yB (a ?_); clear a A) | (refine yD ?_; simp only [gresults, ↓yG, Nat.reduceEqDiff, ↓reduceIte, Option.bind_some, gld_1, gld_n, g19, i2, i5, i6, i7, i14, i15]; refine ⟨_, rfl, ?_⟩; simp only [gone]))
      refine GW_loop (fun k fr H8 => ∃ (j : Nat), k = n - j ∧ i < j ∧ j ≤ n ∧ fr.get 2 = some (.pointer (some ⟨H.len + 1, 0, none⟩)) ∧ fr.get 5 = some (sv) ∧ fr.get 6 = some (.slice (some ⟨it, 0, none⟩) (R + 1) gct) ∧ fr.get 7 = some (.pointer (some ⟨H3.len, 0, none⟩)) ∧ fr.get 14 = some (.int .i64 (m + 1 : Nat)) ∧ fr.get 15 = some (.int .i64 i) ∧ fr.get 16 = some (.int .i64 j) ∧ Same H7 H8 ∧ ∀ j', i < j' → j' < j → ¬ p.D.cand (p.D.E m) i (p.D.E (m + 1) i) j') ?_ (n - (i + 1)) ?_
      rotate_left
      · refine ⟨i + 1, by omega, by omega, by have := hok0.1; omega, ?_⟩
        simp only [↓yG, Nat.reduceEqDiff, ↓reduceIte, Int.natCast_add, Int.cast_ofNat_Int, Int.natCast_zero, true_and, and_true, Option.some.injEq, Value.int.injEq, i2, i5, i6, i7, i14, i15]
        exact ⟨Same.refl hw7, fun j' h1 h2 => by omega⟩
      rintro k fr4 H8 ⟨j, rfl, hij, hj, j2, j5, j6, j7, j14, j15, j16, hS8, hnc⟩ J4 hJ4
      have hS38 := hS7.trans hS8
      have hw8 := hS8.wf
      have hsh8 := hsh3.later hS38
      have hk8 := hk3.later hTw hS38
      have hne : ¬ p.D.cand (p.D.E m) i (p.D.E (m + 1) i) j → j < n := fun h => by
        rcases Nat.lt_or_ge j j0 with h1 | h1
        · omega
        · rcases Nat.lt_or_eq_of_le h1 with h2 | rfl
          · exact absurd hcd0 (hnc j0 hok0.1 h2)
          · exact absurd hcd0 h
      have hnext : ¬ p.D.cand (p.D.E m) i (p.D.E (m + 1) i) j → ∀ j', i < j' → j' < j + 1 → ¬ p.D.cand (p.D.E m) i (p.D.E (m + 1) i) j' := fun h j' h1 h2 => by
        rcases Nat.lt_or_eq_of_le (Nat.le_of_lt_succ h2) with h3 | rfl
        · exact hnc j' h1 h3
        · exact h
      repeat' (first | (exfalso; omega) | refine zA ?_ | refine zB ?_ | refine zC ?_ | refine zD ?_ | refine zE ?_ | refine zF ?_ | refine zG ?_ | refine zH ?_ | refine zI ?_ | refine zJ ?_ | refine zK rfl ?_ | refine zL ?_ | refine zM ?_ | refine zN ?_ | refine zO ?_ | refine zP rfl ?_ | refine zQ ?_ | ((first | refine zR ?_ | refine zS ?_ | refine zT ?_ | skip); intro K k; simp (disch := (first | (simp only [yD2, beq_self_eq_true, Nat.reduceLT, Nat.reduceAdd]; done) | ((fail_if_success (apply Bool.eq_iff_iff.2)); first | omega | (simp only [yD2, beq_self_eq_true, Nat.reduceLT, Nat.reduceAdd] <;> omega)) | fail)) only [↓yS, yT, ↓reduceIte, Nat.reduceEqDiff, Nat.reduceAdd, Nat.reduceMul, reduceCtorEq, Int.reduceToNat, g19, j2, j5, j6, j7, j14, j15, j16]; refine yC (k _ _ ?_); clear k K) | ((first | refine zU ?_ | refine zV ?_ | refine zW ?_); intro A B C D a b c d; simp only [↓yG, Nat.reduceEqDiff, ↓reduceIte, g19, j2, j5, j6, j7, j14, j15, j16]; (first | refine zX (a ?_) | refine zY (b ?_) | refine zZ (fun hc => c ?_) (fun hc => d ?_)) <;> clear a b c d A B C D <;> try simp only [yL] at hc) | (refine yA ?_; intro A a; simp only [↓yG, Nat.reduceEqDiff, ↓reduceIte, g19, j2, j5, j6, j7, j14, j15, j16]; refine yB (a ?_); clear a A) | (refine yD ?_; simp only [gresults, ↓yG, Nat.reduceEqDiff, ↓reduceIte, Option.bind_some, gld_1, gld_n, g19, j2, j5, j6, j7, j14, j15, j16]; refine ⟨_, rfl, ?_⟩; simp only [gone]))
      refine Gw_s fun K' hK' => G1_callM (by simp only [gtarget, ↓GArg.ev, ↓evs, ↓Tr.get_set, Nat.reduceEqDiff, if_true, if_false, ↓reduceIte, Option.map_some, j2, j5, j6, j7, j14, j15, j16]; rfl) (fits_ok (H := H8.up) (i := i) (j := j) ⟨hsh8.ex⟩ ⟨⟨⟨hk8.pr.kr.rd, hk8.pr.kr.sl⟩, hk8.pr.sh, hk8.pr.le, hk8.pr.ww, hk8.pr.rr⟩, hk8.ok⟩ (by rw [hnn]; omega) (by rw [hnn]; omega)) fun r9 H9 hq => hK' _ _ ?_
      obtain ⟨rfl, rfl⟩ := hq
      rw [updown]
      have hm1 : (((m + 1 : Nat) : Int) - 1).toNat = m := by omega
      have hix : ((i : Int)).toNat = i := by omega
      have hjx : ((j : Int)).toNat = j := by omega
      have htm := hTr _ hS38 m (by omega)
      have htm1 := hTr _ hS38 (m + 1) (by omega)
      have hem := hE _ hS38 m j (by omega) (by omega)
      have hem1 := hE _ hS38 (m + 1) i (by omega) (by omega)
      cases hfit : p.fit i j with
      | false =>
        have hcd : ¬ p.D.cand (p.D.E m) i (p.D.E (m + 1) i) j := fun h => by
          have := h.1
          rw [show p.D.fit i j = p.fit i j from rfl, hfit] at this; cases this
        have := hne hcd
        repeat' (first | (exfalso; omega) | refine zA ?_ | refine zB ?_ | refine zC ?_ | refine zD ?_ | refine zE ?_ | refine zF ?_ | refine zG ?_ | refine zH ?_ | refine zI ?_ | refine zJ ?_ | refine zK rfl ?_ | refine zL ?_ | refine zM ?_ | refine zN ?_ | refine zO ?_ | refine zP rfl ?_ | refine zQ ?_ | ((first | refine zR ?_ | refine zS ?_ | refine zT ?_ | skip); intro K k; simp (disch := (first | (simp only [yD2, beq_self_eq_true, Nat.reduceLT, Nat.reduceAdd]; done) | ((fail_if_success (apply Bool.eq_iff_iff.2)); first | omega | (simp only [yD2, beq_self_eq_true, Nat.reduceLT, Nat.reduceAdd] <;> omega)) | fail)) only [↓yS, yT, ↓reduceIte, Nat.reduceEqDiff, Nat.reduceAdd, Nat.reduceMul, reduceCtorEq, Int.reduceToNat, g19, j2, j5, j6, j7, j14, j15, j16]; refine yC (k _ _ ?_); clear k K) | ((first | refine zU ?_ | refine zV ?_ | refine zW ?_); intro A B C D a b c d; simp only [↓yG, Nat.reduceEqDiff, ↓reduceIte, g19, j2, j5, j6, j7, j14, j15, j16]; (first | refine zX (a ?_) | refine zY (b ?_) | refine zZ (fun hc => c ?_) (fun hc => d ?_)) <;> clear a b c d A B C D <;> try simp only [yL] at hc) | (refine yA ?_; intro A a; simp only [↓yG, Nat.reduceEqDiff, ↓reduceIte, g19, j2, j5, j6, j7, j14, j15, j16]; refine yB (a ?_); clear a A) | (refine yD ?_; simp only [gresults, ↓yG, Nat.reduceEqDiff, ↓reduceIte, Option.bind_some, gld_1, gld_n, g19, j2, j5, j6, j7, j14, j15, j16]; refine ⟨_, rfl, ?_⟩; simp only [gone]))
        refine hJ4 _ _ ⟨n - (j + 1), by omega, j + 1, rfl, by omega, by omega, ?_⟩
        simp only [↓yG, Nat.reduceEqDiff, ↓reduceIte, Int.natCast_add, Int.cast_ofNat_Int, Int.natCast_zero, true_and, and_true, Option.some.injEq, Value.int.injEq, j2, j5, j6, j7, j14, j15]
        exact ⟨hS8, hnext hcd⟩
      | true =>
        by_cases hv : p.D.E m j = -1
        · have hcd : ¬ p.D.cand (p.D.E m) i (p.D.E (m + 1) i) j := fun h => h.2.1 hv
          have := hne hcd
          have hv' := eq_true hv
          repeat' (first | (exfalso; omega) | refine zA ?_ | refine zB ?_ | refine zC ?_ | refine zD ?_ | refine zE ?_ | refine zF ?_ | refine zG ?_ | refine zH ?_ | refine zI ?_ | refine zJ ?_ | refine zK rfl ?_ | refine zL ?_ | refine zM ?_ | refine zN ?_ | refine zO ?_ | refine zP rfl ?_ | refine zQ ?_ | ((first | refine zR ?_ | refine zS ?_ | refine zT ?_ | skip); intro K k; simp (disch := (first | (simp only [yD2, beq_self_eq_true, Nat.reduceLT, Nat.reduceAdd]; done) | ((fail_if_success (apply Bool.eq_iff_iff.2)); first | omega | (simp only [yD2, beq_self_eq_true, Nat.reduceLT, Nat.reduceAdd] <;> omega)) | fail)) only [↓yS, yT, ↓reduceIte, Nat.reduceEqDiff, Nat.reduceAdd, Nat.reduceMul, reduceCtorEq, Int.reduceToNat, g19, j2, j5, j6, j7, j14, j15, j16, htm, hem, hm1, hv']; refine yC (k _ _ ?_); clear k K) | ((first | refine zU ?_ | refine zV ?_ | refine zW ?_); intro A B C D a b c d; simp only [↓yG, Nat.reduceEqDiff, ↓reduceIte, g19, j2, j5, j6, j7, j14, j15, j16, htm, hem, hm1, hv']; (first | refine zX (a ?_) | refine zY (b ?_) | refine zZ (fun hc => c ?_) (fun hc => d ?_)) <;> clear a b c d A B C D <;> try simp only [yL] at hc) | (refine yA ?_; intro A a; simp only [↓yG, Nat.reduceEqDiff, ↓reduceIte, g19, j2, j5, j6, j7, j14, j15, j16, htm, hem, hm1, hv']; refine yB (a ?_); clear a A) | (refine yD ?_; simp only [gresults, ↓yG, Nat.reduceEqDiff, ↓reduceIte, Option.bind_some, gld_1, gld_n, g19, j2, j5, j6, j7, j14, j15, j16, htm, hem, hm1, hv']; refine ⟨_, rfl, ?_⟩; simp only [gone]))
          refine hJ4 _ _ ⟨n - (j + 1), by omega, j + 1, rfl, by omega, by omega, ?_⟩
          simp only [↓yG, Nat.reduceEqDiff, ↓reduceIte, Int.natCast_add, Int.cast_ofNat_Int, Int.natCast_zero, true_and, and_true, Option.some.injEq, Value.int.injEq, j2, j5, j6, j7, j14, j15]
          exact ⟨hS8, hnext hcd⟩
        · have hv' := eq_false hv
          have hok : p.D.ok i j := ⟨hij, by rw [hD]; omega, hfit⟩
          have hc1 : 0 ≤ p.row i j := hG.pos _ _ hok
          have hc2 : p.row i j ≤ 40000000 := hG.ub _ _ hok
          have hc3 := E_ge hG m j
          have hc4 := E_ub hG m j
          repeat' (first | (exfalso; omega) | refine zA ?_ | refine zB ?_ | refine zC ?_ | refine zD ?_ | refine zE ?_ | refine zF ?_ | refine zG ?_ | refine zH ?_ | refine zI ?_ | refine zJ ?_ | refine zK rfl ?_ | refine zL ?_ | refine zM ?_ | refine zN ?_ | refine zO ?_ | refine zP rfl ?_ | refine zQ ?_ | ((first | refine zR ?_ | refine zS ?_ | refine zT ?_ | skip); intro K k; simp (disch := (first | (simp only [yD2, beq_self_eq_true, Nat.reduceLT, Nat.reduceAdd]; done) | ((fail_if_success (apply Bool.eq_iff_iff.2)); first | omega | (simp only [yD2, beq_self_eq_true, Nat.reduceLT, Nat.reduceAdd] <;> omega)) | fail)) only [↓yS, yT, ↓reduceIte, Nat.reduceEqDiff, Nat.reduceAdd, Nat.reduceMul, reduceCtorEq, Int.reduceToNat, g19, j2, j5, j6, j7, j14, j15, j16, htm, hem, hm1, hv']; refine yC (k _ _ ?_); clear k K) | ((first | refine zU ?_ | refine zV ?_ | refine zW ?_); intro A B C D a b c d; simp only [↓yG, Nat.reduceEqDiff, ↓reduceIte, g19, j2, j5, j6, j7, j14, j15, j16, htm, hem, hm1, hv']; (first | refine zX (a ?_) | refine zY (b ?_) | refine zZ (fun hc => c ?_) (fun hc => d ?_)) <;> clear a b c d A B C D <;> try simp only [yL] at hc) | (refine yA ?_; intro A a; simp only [↓yG, Nat.reduceEqDiff, ↓reduceIte, g19, j2, j5, j6, j7, j14, j15, j16, htm, hem, hm1, hv']; refine yB (a ?_); clear a A) | (refine yD ?_; simp only [gresults, ↓yG, Nat.reduceEqDiff, ↓reduceIte, Option.bind_some, gld_1, gld_n, g19, j2, j5, j6, j7, j14, j15, j16, htm, hem, hm1, hv']; refine ⟨_, rfl, ?_⟩; simp only [gone]))
          intro K' hK'; refine G1_callM (by simp only [gtarget, ↓GArg.ev, ↓evs, ↓Tr.get_set, Nat.reduceEqDiff, if_true, if_false, ↓reduceIte, Option.map_some, j2, j5, j6, j7, j14, j15, j16]; rfl) (cost_ok (H := H8.up) (i := i) (j := j) (wf_up hw8) ⟨hsh8.ex⟩ ⟨⟨⟨hk8.pr.kr.rd, hk8.pr.kr.sl⟩, hk8.pr.sh, hk8.pr.le, hk8.pr.ww, hk8.pr.rr⟩, hk8.ok⟩ (by rw [hnn]; omega) (by rw [hnn]; omega) (by omega)) fun r9 H9 hq => hK' _ _ ?_
          obtain ⟨rfl, hS9'⟩ := hq
          have hS9 := Same.down hw8 hS9'
          clear hS9'
          generalize H9.down H8.lim = H10 at *
          have hS39 := hS38.trans hS9
          have htm := hTr _ hS39 m (by omega)
          have htm1 := hTr _ hS39 (m + 1) (by omega)
          have hem := hE _ hS39 m j (by omega) (by omega)
          have hem1 := hE _ hS39 (m + 1) i (by omega) (by omega)
          by_cases heq : p.row i j + p.D.E m j = p.D.E (m + 1) i
          case neg =>
            have hcd : ¬ p.D.cand (p.D.E m) i (p.D.E (m + 1) i) j := fun h => heq h.2.2
            have := hne hcd
            have heq' := eq_false heq
            repeat' (first | (exfalso; omega) | refine zA ?_ | refine zB ?_ | refine zC ?_ | refine zD ?_ | refine zE ?_ | refine zF ?_ | refine zG ?_ | refine zH ?_ | refine zI ?_ | refine zJ ?_ | refine zK rfl ?_ | refine zL ?_ | refine zM ?_ | refine zN ?_ | refine zO ?_ | refine zP rfl ?_ | refine zQ ?_ | ((first | refine zR ?_ | refine zS ?_ | refine zT ?_ | skip); intro K k; simp (disch := (first | (simp only [yD2, beq_self_eq_true, Nat.reduceLT, Nat.reduceAdd]; done) | ((fail_if_success (apply Bool.eq_iff_iff.2)); first | omega | (simp only [yD2, beq_self_eq_true, Nat.reduceLT, Nat.reduceAdd] <;> omega)) | fail)) only [↓yS, yT, ↓reduceIte, Nat.reduceEqDiff, Nat.reduceAdd, Nat.reduceMul, reduceCtorEq, Int.reduceToNat, g19, j2, j5, j6, j7, j14, j15, j16, htm, htm1, hem, hem1, hm1, heq']; refine yC (k _ _ ?_); clear k K) | ((first | refine zU ?_ | refine zV ?_ | refine zW ?_); intro A B C D a b c d; simp only [↓yG, Nat.reduceEqDiff, ↓reduceIte, g19, j2, j5, j6, j7, j14, j15, j16, htm, htm1, hem, hem1, hm1, heq']; (first | refine zX (a ?_) | refine zY (b ?_) | refine zZ (fun hc => c ?_) (fun hc => d ?_)) <;> clear a b c d A B C D <;> try simp only [yL] at hc) | (refine yA ?_; intro A a; simp only [↓yG, Nat.reduceEqDiff, ↓reduceIte, g19, j2, j5, j6, j7, j14, j15, j16, htm, htm1, hem, hem1, hm1, heq']; refine yB (a ?_); clear a A) | (refine yD ?_; simp only [gresults, ↓yG, Nat.reduceEqDiff, ↓reduceIte, Option.bind_some, gld_1, gld_n, g19, j2, j5, j6, j7, j14, j15, j16, htm, htm1, hem, hem1, hm1, heq']; refine ⟨_, rfl, ?_⟩; simp only [gone]))
            refine hJ4 _ _ ⟨n - (j + 1), by omega, j + 1, rfl, by omega, by omega, ?_⟩
            simp only [↓yG, Nat.reduceEqDiff, ↓reduceIte, Int.natCast_add, Int.cast_ofNat_Int, Int.natCast_zero, true_and, and_true, Option.some.injEq, Value.int.injEq, j2, j5, j6, j7, j14, j15]
            exact ⟨hS8.trans hS9, hnext hcd⟩
          have hcd : p.D.cand (p.D.E m) i (p.D.E (m + 1) i) j := ⟨hfit, hv, heq⟩
          have heq' := eq_true heq
          have hS79 := hS8.trans hS9
          have hm10 : H10.mine H3.len = some (bkC ev c pv, 0) := by rw [hS79.mine hio7]; exact hm7
          have er := fun o => mine_rd (o := o) hm10
          have hO10 := hO7.later hS79
          have hP10 := hP7.later hS79
          repeat' (first | (exfalso; omega) | refine zA ?_ | refine zB ?_ | refine zC ?_ | refine zD ?_ | refine zE ?_ | refine zF ?_ | refine zG ?_ | refine zH ?_ | refine zI ?_ | refine zJ ?_ | refine zK rfl ?_ | refine zL ?_ | refine zM ?_ | refine zN ?_ | refine zO ?_ | refine zP rfl ?_ | refine zQ ?_ | ((first | refine zR ?_ | refine zS ?_ | refine zT ?_ | skip); intro K k; simp (disch := (first | (simp only [yD2, beq_self_eq_true, Nat.reduceLT, Nat.reduceAdd]; done) | ((fail_if_success (apply Bool.eq_iff_iff.2)); first | omega | (simp only [yD2, beq_self_eq_true, Nat.reduceLT, Nat.reduceAdd] <;> omega)) | fail)) only [↓yS, yT, ↓reduceIte, Nat.reduceEqDiff, Nat.reduceAdd, Nat.reduceMul, reduceCtorEq, Int.reduceToNat, g19, j2, j5, j6, j7, j14, j15, j16, htm, htm1, hem, hem1, hm1, heq', er, bkC_0]; refine yC (k _ _ ?_); clear k K) | ((first | refine zU ?_ | refine zV ?_ | refine zW ?_); intro A B C D a b c d; simp only [↓yG, Nat.reduceEqDiff, ↓reduceIte, g19, j2, j5, j6, j7, j14, j15, j16, htm, htm1, hem, hem1, hm1, heq', er, bkC_0]; (first | refine zX (a ?_) | refine zY (b ?_) | refine zZ (fun hc => c ?_) (fun hc => d ?_)) <;> clear a b c d A B C D <;> try simp only [yL] at hc) | (refine yA ?_; intro A a; simp only [↓yG, Nat.reduceEqDiff, ↓reduceIte, g19, j2, j5, j6, j7, j14, j15, j16, htm, htm1, hem, hem1, hm1, heq', er, bkC_0]; refine yB (a ?_); clear a A) | (refine yD ?_; simp only [gresults, ↓yG, Nat.reduceEqDiff, ↓reduceIte, Option.bind_some, gld_1, gld_n, g19, j2, j5, j6, j7, j14, j15, j16, htm, htm1, hem, hem1, hm1, heq', er, bkC_0]; refine ⟨_, rfl, ?_⟩; simp only [gone]))
          have hone : ints .i64 ((List.replicate 1 0).set 0 (j : Int)) = [.int .i64 (j : Nat)] := rfl
          obtain ⟨ev', H11, e, hO11, hB11⟩ := hO10.app1 (b := 8) (by decide) (by decide) (news := [.int .i64 (j : Nat)]) rfl (by omega) (by omega)
          have hid11 := hO10.app1_id (by decide) (by decide) rfl (by omega) (by omega) e
          refine Gw_s fun K' hK' => ?_
          simp (disch := (first | (simp only [yD2, beq_self_eq_true, Nat.reduceLT, Nat.reduceAdd]; done) | ((fail_if_success (apply Bool.eq_iff_iff.2)); first | omega | (simp only [yD2, beq_self_eq_true, Nat.reduceLT, Nat.reduceAdd] <;> omega)) | fail)) only [↓yS, yT, ↓reduceIte, Nat.reduceEqDiff, Nat.reduceAdd, Nat.reduceMul, reduceCtorEq, Int.reduceToNat, j2, j5, j6, j7, j14, j15, j16, hone]
          refine G1_eq e (hK' _ _ ?_)
          clear hK' K' e
          have hio10 := mine_lt hS79.wf hm10
          have hm11 : H11.mine H3.len = some (bkC ev c pv, 0) := by rw [hB11.mine hio10 (fun ha => hO10.off hm10 _ ha rfl)]; exact hm10
          have hset := @bk_set0 ev ev' pv c hO11.fl
          have hw11 := hO11.same.wf
          have hP11 := hP10.but hB11 (fun k hk hin => by have := (hO10.ids hin).1; omega) (fun a ha hin => by
            have h1 := hid7 a hin
            have h2 := (hO5.ids ha).2.1
            omega)
          have hl10 := hS79.len
          have hl11 := hB11.len
          repeat' (first | (exfalso; omega) | refine zA ?_ | refine zB ?_ | refine zC ?_ | refine zD ?_ | refine zE ?_ | refine zF ?_ | refine zG ?_ | refine zH ?_ | refine zI ?_ | refine zJ ?_ | refine zK rfl ?_ | refine zL ?_ | refine zM ?_ | refine zN ?_ | refine zO ?_ | refine zP rfl ?_ | refine zQ ?_ | ((first | refine zR ?_ | refine zS ?_ | refine zT ?_ | skip); intro K k; simp (disch := (first | (simp only [yD2, beq_self_eq_true, Nat.reduceLT, Nat.reduceAdd]; done) | ((fail_if_success (apply Bool.eq_iff_iff.2)); first | omega | (simp only [yD2, beq_self_eq_true, Nat.reduceLT, Nat.reduceAdd] <;> omega)) | fail)) only [↓yS, yT, ↓reduceIte, Nat.reduceEqDiff, Nat.reduceAdd, Nat.reduceMul, reduceCtorEq, Int.reduceToNat, g19, j2, j5, j6, j7, j14, j15, j16, hm11, hset]; refine yC (k _ _ ?_); clear k K) | ((first | refine zU ?_ | refine zV ?_ | refine zW ?_); intro A B C D a b c d; simp only [↓yG, Nat.reduceEqDiff, ↓reduceIte, g19, j2, j5, j6, j7, j14, j15, j16, hm11, hset]; (first | refine zX (a ?_) | refine zY (b ?_) | refine zZ (fun hc => c ?_) (fun hc => d ?_)) <;> clear a b c d A B C D <;> try simp only [yL] at hc) | (refine yA ?_; intro A a; simp only [↓yG, Nat.reduceEqDiff, ↓reduceIte, g19, j2, j5, j6, j7, j14, j15, j16, hm11, hset]; refine yB (a ?_); clear a A) | (refine yD ?_; simp only [gresults, ↓yG, Nat.reduceEqDiff, ↓reduceIte, Option.bind_some, gld_1, gld_n, g19, j2, j5, j6, j7, j14, j15, j16, hm11, hset]; refine ⟨_, rfl, ?_⟩; simp only [gone]))
          have hBp : But (fun k => k = H3.len) H11 (H11.put H3.len (.cells (bkC ev' c pv) 0 true)) := (But.refl (S := fun k => k = H3.len) hw11).put rfl (mine_lt hw11 hm11) _
          refine hJ _ _ ⟨m, by omega, m, j, pre ++ [j], ev', rfl, ?_⟩
          simp only [↓yG, Nat.reduceEqDiff, ↓reduceIte, Int.natCast_add, Int.cast_ofNat_Int, Int.natCast_zero, true_and, and_true, Option.some.injEq, Value.int.injEq, j2, j5, j6, j7, j14, j15]
          refine ⟨by omega, mine_put_same (mine_obj hm11).1, ?_, fun a ha => by have := hid11 a ha; omega, hP11.but hBp (fun k hk e => by omega) (hP11.off hm11), by rw [len_put]; omega, hv, by omega, by simp; omega, fun l h => ?_⟩
          · rw [natsI_snoc, List.length_append]
            exact hO11.but hBp (fun k hk e => by omega) (hO11.off hm11)
          · have := hgr (j :: l) (.cons hij (by rw [hD]; omega) hcd hnc h)
            rw [List.append_assoc]; exact this
end Go.Gh
