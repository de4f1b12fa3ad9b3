/-
  lines and its reference, walked: the lines of a text and its diagnostics.
-/
import Derived.Test.YtfldcmeecpgpeaaGreatDoorGlW7
import Derived.Test.YtfldcmeecpgpeaaGreatDoorGlW3
namespace Go.Gh
set_option linter.unusedSimpArgs false
set_option linter.unusedVariables false
set_option maxHeartbeats 4000000
open Go.RowKit Go.Lib
set_option maxRecDepth 4000
theorem split_row {l : List UInt8} (hl : l.length ≤ 16777216) {B : ByteArray} (hB : B = strB [10]) (H : GHeap) :
    ∃ r H', gev G 57 [.string (strB l), .string B] H = some (r, H') ∧ (r = .slice (some ⟨H.len, 0, none⟩) (lns l).length ((lns l).length + 1) ∧ H' = H.add (some (.cells (strs (lns l)) 1 true))) := by
  subst hB
  refine ⟨_, _, ?_, rfl, rfl⟩
  refine gev_ext (f := 57) rfl ?_
  obtain ⟨h1, h2⟩ := splB_lns l
  unfold runSplit
  simp only
  rw [if_pos ⟨by rw [strB_size]; omega, by decide, by rw [h1, List.length_map]; exact h2.symm⟩, h1, h2, show countB (strB l) (strB [10]) + 2 = (lns l).length + 1 by omega]
  simp only [List.map_map, strs]
  rfl
abbrev LV := Value × Ln
def lnC (x : LV) : List Value := [.int .i64 x.2.n, x.1]
theorem lnC_len (x : LV) : (lnC x).length = 2 := rfl
def LnC (l : List LV) : List Value := l.flatMap lnC
theorem LnC_snoc (l : List LV) (x : LV) : LnC (l ++ [x]) = LnC l ++ lnC x := by simp [LnC]
def dgC (d : Dg) : List Value := [.int .i64 d.l, .int .i64 d.c, .int .i64 d.e]
theorem dgC_len (x : Dg) : (dgC x).length = 3 := rfl
def DgC (l : List Dg) : List Value := l.flatMap dgC
theorem DgC_snoc (l : List Dg) (x : Dg) : DgC (l ++ [x]) = DgC l ++ dgC x := by simp [DgC]
theorem OS.ne {s u s' u' n n' : Nat} {H0 H1 H : GHeap} {v w : Value} {xs ys : List Value} (h : OS s u H0 H v n xs) (k : OS s' u' H1 H w n' ys) (hu : xs ≠ ys ∨ u ≠ u') : ∀ a ∈ idOf v, ¬ a ∈ idOf w := fun a ha hb => by
  have h1 := (h.ids ha).2.2
  have h2 := (k.ids hb).2.2
  rw [h1] at h2
  simp only [Option.some.injEq, Prod.mk.injEq] at h2
  exact hu.elim (fun e => e h2.1) fun e => e h2.2
theorem fd_dg {l : List Fd} {m : List Dg} (hl : l ≠ []) : FdC l ≠ DgC m := fun e => by
  cases l with
  | nil => exact hl rfl
  | cons f l =>
    cases m with
    | nil => simp [FdC, DgC, fdC] at e
    | cons d m => simp [FdC, DgC, fdC, dgC] at e
structure LOut (H0 H : GHeap) (v : Value) (L : List LV) : Prop where
  own : OS 2 2 H0 H v L.length (LnC L)
  rows : ∀ x ∈ L, OS 3 3 H0 H x.1 x.2.f.length (FdC x.2.f) ∧ x.2.f ≠ []
theorem LOut.later {H0 H H' : GHeap} {v : Value} {L : List LV} (h : LOut H0 H v L) (hs : Same H H') : LOut H0 H' v L := ⟨h.own.later hs, fun x hx => ⟨(h.rows x hx).1.later hs, (h.rows x hx).2⟩⟩
theorem LOut.nil {H0 H : GHeap} (hs : Same H0 H) : LOut H0 H (.slice none 0 0) [] := ⟨OS.nil hs, by simp⟩
theorem LOut.snoc {H0 H : GHeap} {v : Value} {L : List LV} (h : LOut H0 H v L) {w : Value} {x : Ln} (hx : OS 3 3 H0 H w x.f.length (FdC x.f)) (hne : x.f ≠ []) (hl : (L.length + 1) * 32 ≤ 140737488355328) :
    ∃ v' H', gapp 2 32 2 (H.add (some (.cells (lnC (w, x)) 2 true))) v (.slice (some ⟨H.len, 0, none⟩) 1 2) = some (v', H') ∧ LOut H0 H' v' (L ++ [(w, x)]) ∧ But (fun j => j ∈ idOf v) H H' := by
  obtain ⟨v', H', e, hO, hB⟩ := h.own.app1 (by decide) (by decide) (news := lnC (w, x)) rfl (b := 32) hl (by omega)
  refine ⟨v', H', e, ⟨by rw [LnC_snoc, List.length_append]; exact hO, fun y hy => ?_⟩, hB⟩
  have : OS 3 3 H0 H y.1 y.2.f.length (FdC y.2.f) ∧ y.2.f ≠ [] := by
    rcases List.mem_append.1 hy with hy | hy
    · exact h.rows y hy
    · rw [List.mem_singleton.1 hy]; exact ⟨hx, hne⟩
  exact ⟨this.1.but hB (fun k hk ha => by have := (h.own.ids ha).1; omega) (this.1.ne h.own (.inr (by decide))), this.2⟩
theorem LOut.dg {H0 H H' : GHeap} {v w : Value} {L : List LV} {D : List Dg} (h : LOut H0 H v L) (hd : OS 3 3 H0 H w D.length (DgC D)) (hB : But (fun j => j ∈ idOf w) H H') : LOut H0 H' v L :=
  ⟨h.own.but hB (fun k hk ha => by have := (hd.ids ha).1; omega) (h.own.ne hd (.inr (by decide))), fun x hx =>
    ⟨(h.rows x hx).1.but hB (fun k hk ha => by have := (hd.ids ha).1; omega) ((h.rows x hx).1.ne hd (.inl (fd_dg (h.rows x hx).2))), (h.rows x hx).2⟩⟩
theorem LOut.snocD {H0 H H' : GHeap} {v w : Value} {L : List LV} {D : List Dg} (h : LOut H0 H v L) (hd : OS 3 3 H0 H w D.length (DgC D)) (hB : But (fun j => j ∈ idOf v) H H') : OS 3 3 H0 H' w D.length (DgC D) :=
  hd.but hB (fun k hk ha => by have := (h.own.ids ha).1; omega) (hd.ne h.own (.inr (by decide)))
structure SpOut (H H' : GHeap) (r : Value) (src : List UInt8) : Prop where
  ex : ∃ ov dv L, r = .tuple #[ov, dv] ∧ LOut H H' ov L ∧ L.map (·.2) = splO src ∧ GArg1 H' 3 dv (splD src).length (DgC (splD src)) ∧ (splD src = [] → dv = .slice none 0 0)
theorem OS.made' {s u n : Nat} {H0 H : GHeap} {cs : List Value} (hs : Same H0 H) (h : cs.length = n * s) : OS s u H0 (H.add (some (.cells cs u true))) (.slice (some ⟨H.len, 0, none⟩) n (n + 1)) n cs :=
  ⟨hs.add _, ⟨h, .inr ⟨H.len, n + 1, rfl, .inr rfl, mine_add_eq rfl hs.wf.1⟩⟩, .inr hs.len⟩
theorem OS.arg {s u n : Nat} {H0 H : GHeap} {v : Value} {xs : List Value} (h : OS s u H0 H v n xs) (hu : usz u = s := by rfl) : GArg1 H s v n xs := OwnG.arg h.same.wf h.own (.inr hu)
theorem splD_big {src : List UInt8} (h : 262144 < src.length) : splD src = [⟨1, 1, 9⟩] ∧ splO src = [] := ⟨if_pos h, if_pos h⟩
theorem take50_one {D : List Dg} {x : Dg} : (D ++ [x]).take 50 = if (D.take 50).length < 50 then D.take 50 ++ [x] else D.take 50 := take_app50 D x 50
theorem OS.weaken {s u n : Nat} {H0 H1 H : GHeap} {v : Value} {xs : List Value} (h : OS s u H1 H v n xs) (hs : Same H0 H1) : OS s u H0 H v n xs := ⟨hs.trans h.same, h.own, h.young.imp id fun k => Nat.le_trans hs.len k⟩
theorem LOut.weaken {H0 H1 H : GHeap} {v : Value} {L : List LV} (h : LOut H1 H v L) (hs : Same H0 H1) : LOut H0 H v L := ⟨h.own.weaken hs, fun x hx => ⟨(h.rows x hx).1.weaken hs, (h.rows x hx).2⟩⟩
structure SpI (H1 H2 : GHeap) (ov dv : Value) (L : List LV) (O : List Ln) (D : List Dg) : Prop where
  out : LOut H1 H2 ov L
  map : L.map (·.2) = O
  dg : OS 3 3 H1 H2 dv D.length (DgC D)
  nil : D = [] → dv = .slice none 0 0
theorem SpI.later {H1 H2 H3 : GHeap} {ov dv : Value} {L : List LV} {O : List Ln} {D : List Dg} (h : SpI H1 H2 ov dv L O D) (hs : Same H2 H3) : SpI H1 H3 ov dv L O D := ⟨h.out.later hs, h.map, h.dg.later hs, h.nil⟩
theorem SpI.addD {H1 H2 : GHeap} {ov dv : Value} {L : List LV} {O : List Ln} {D : List Dg} (h : SpI H1 H2 ov dv L O D) (x : Dg) (hl : (D.length + 1) * 24 ≤ 140737488355328) :
    ∃ v' H', gapp 3 24 3 (H2.add (some (.cells (dgC x) 3 true))) dv (.slice (some ⟨H2.len, 0, none⟩) 1 2) = some (v', H') ∧ SpI H1 H' ov v' L O (D ++ [x]) := by
  obtain ⟨v', H', e, hO, hB⟩ := h.dg.app1 (by decide) (by decide) (news := dgC x) rfl (b := 24) hl (by omega)
  refine ⟨v', H', e, h.out.dg h.dg hB, h.map, by rw [DgC_snoc, List.length_append]; exact hO, fun e => by simp at e⟩
theorem SpI.addL {H1 H2 : GHeap} {ov dv : Value} {L : List LV} {O : List Ln} {D : List Dg} (h : SpI H1 H2 ov dv L O D) {w : Value} {x : Ln} (hx : OS 3 3 H1 H2 w x.f.length (FdC x.f)) (hne : x.f ≠ []) (hl : (L.length + 1) * 32 ≤ 140737488355328) :
    ∃ v' H', gapp 2 32 2 (H2.add (some (.cells (lnC (w, x)) 2 true))) ov (.slice (some ⟨H2.len, 0, none⟩) 1 2) = some (v', H') ∧ SpI H1 H' v' dv (L ++ [(w, x)]) (O ++ [x]) D := by
  obtain ⟨v', H', e, hO, hB⟩ := h.out.snoc hx hne hl
  exact ⟨v', H', e, hO, by rw [List.map_append, h.map]; rfl, h.out.snocD h.dg hB, h.nil⟩
theorem dg_cells {a b c : Nat} {A B C : Int} (ha : A = a) (hb : B = b) (hc : C = c) : (List.take 0 (zeros [.int .i64 0, .int .i64 0, .int .i64 0] 1) ++ (Value.agg #[.int .i64 A, .int .i64 B, .int .i64 C]).cells.toList ++ List.drop (0 + 3) (zeros [.int .i64 0, .int .i64 0, .int .i64 0] 1)) = dgC ⟨a, b, c⟩ := by
  subst ha; subst hb; subst hc; rfl
theorem fill_lnv {k : Int} {x : Value} (h : flatV x = true) : fillL (zeros [.int .i64 0, .slice none 0 0] 1) [(0, 2, .agg #[.int .i64 k, x])] = some [.int .i64 k, x] := by
  simp [fillL, zeros, Value.cells, flatV_int, h]
theorem build_ln {k : Int} {x : Value} (h : flatV x = true) : fillL [.int .i64 0, .slice none 0 0] [(0, 1, .int .i64 k), (1, 1, x)] = some [.int .i64 k, x] := by
  rw [fillL_set _ _ (by simp [h, flatV_int])]; rfl
theorem OS.flat {s u n : Nat} {H0 H : GHeap} {v : Value} {xs : List Value} (h : OS s u H0 H v n xs) : flatV v = true := by
  rcases h.own.at_ with ⟨rfl, _⟩ | ⟨i, gc, rfl, _, _⟩ <;> exact flatV_sl
theorem lineR_long {s : List UInt8} (h : 1000 < s.length) : lineR s = .bad 1001 9 := if_pos h
theorem lineR_bad {s : List UInt8} {i : Nat} (h : ¬ 1000 < s.length) (e : flds s 0 = .bad i) : lineR s = .bad (i + 1) 4 := by unfold lineR; rw [if_neg h, e]
theorem lineR_ok {s : List UInt8} {l : List Fd} (h : ¬ 1000 < s.length) (e : flds s 0 = .ok l) : lineR s = .ok l := by unfold lineR; rw [if_neg h, e]
theorem Split_ok {H : GHeap} (hw : H.wf) {src : List UInt8} (hl : src.length ≤ 140737488355328) : ∃ r H', gev G 30 [.string (strB src)] H = some (r, H') ∧ SpOut H H' r src := by
  refine gev_GW (f := 30) rfl fun Post hPost => ?_
  have hls := strB_size src
  have hlim := hw.1
  have hS0 := Same.refl hw
  simp only [frameOf, Nat.reduceAdd]
  by_cases h262 : 262144 < src.length
  · repeat' (first | (exfalso; omega) | refine zn ?_ | refine zK rfl ?_ | refine zP rfl ?_ | ((first | refine zm ?_ | skip); intro _; intros; simp (disch := first | exact zd | fail) only [↓yS, yT, gresults, gone, ↓reduceIte, Nat.reduceEqDiff, Nat.reduceAdd, Nat.reduceMul, reduceCtorEq, Int.reduceToNat, g30, hls]; first | (rename_i K k; (first | refine yC (k _ _ ?_) | refine zg (k _ ?_)); clear k K) | (rename_i A B C D a b c d; (first | refine zx (a ?_) | refine zy (b ?_) | refine zz (fun hc => c ?_) (fun hc => d ?_) | refine zv (b ?_) | refine zw (a ?_)) <;> clear a b c d A B C D <;> try simp only [yL] at hc)) | refine zA ?_ | refine zB ?_ | refine zF ?_)
    have hO := OS.made' (s := 3) (u := 3) (n := 1) (cs := [.int .i64 1, .int .i64 1, .int .i64 9]) hS0 rfl
    exact hPost _ _ ⟨_, _, [], rfl, LOut.nil hO.same, by rw [(splD_big h262).2]; rfl, by rw [(splD_big h262).1]; exact hO.arg, fun e => by rw [(splD_big h262).1] at e; cases e⟩
  have hl : src.length ≤ 16777216 := by omega
  have hD : splD src = (dgF (lns src) (lns src).length).take 50 := if_neg h262
  have hL : splO src = outF (lns src) (lns src).length := if_neg h262
  repeat' (first | (exfalso; omega) | refine zn ?_ | refine zK rfl ?_ | refine zP rfl ?_ | ((first | refine zm ?_ | skip); intro _; intros; simp (disch := first | exact zd | fail) only [↓yS, yT, gresults, gone, ↓reduceIte, Nat.reduceEqDiff, Nat.reduceAdd, Nat.reduceMul, reduceCtorEq, Int.reduceToNat, g30, hls]; first | (rename_i K k; (first | refine yC (k _ _ ?_) | refine zg (k _ ?_)); clear k K) | (rename_i A B C D a b c d; (first | refine zx (a ?_) | refine zy (b ?_) | refine zz (fun hc => c ?_) (fun hc => d ?_) | refine zv (b ?_) | refine zw (a ?_)) <;> clear a b c d A B C D <;> try simp only [yL] at hc)) | refine zA ?_ | refine zB ?_ | refine zF ?_)
  refine Gw_s fun K' hK' => G1_call (by simp only [gtarget, ↓GArg.ev, ↓evs, ↓Tr.get_set, Nat.reduceEqDiff, if_true, if_false, ↓reduceIte, Option.map_some]; rfl) (split_row hl (by rfl) _) fun r1 H1 hq => hK' _ _ ?_
  obtain ⟨rfl, rfl⟩ := hq
  obtain ⟨hlen, hlin⟩ := lns_len src
  have hne := lns_ne src
  have hS1 := hS0.add (.cells (strs (lns src)) 1 true)
  have hM : SRd (H.add (some (.cells (strs (lns src)) 1 true))) (.slice (some ⟨H.len, 0, none⟩) (lns src).length ((lns src).length + 1)) (lns src) := (OS.made' (s := 1) (u := 1) hS0 (by rw [strs_len, Nat.mul_one])).arg
  generalize lns src = M at *
  generalize H.add (some (.cells (strs M) 1 true)) = H1 at *
  generalize (Value.slice (some ⟨H.len, 0, none⟩) M.length (M.length + 1)) = mv at *
  have hslM := hM.rd.isSl
  repeat' (first | (exfalso; omega) | refine zn ?_ | refine zK rfl ?_ | refine zP rfl ?_ | ((first | refine zm ?_ | skip); intro _; intros; simp (disch := first | exact zd | fail) only [↓yS, yT, gresults, gone, ↓reduceIte, Nat.reduceEqDiff, Nat.reduceAdd, Nat.reduceMul, reduceCtorEq, Int.reduceToNat, g30, hslM.len]; first | (rename_i K k; (first | refine yC (k _ _ ?_) | refine zg (k _ ?_)); clear k K) | (rename_i A B C D a b c d; (first | refine zx (a ?_) | refine zy (b ?_) | refine zz (fun hc => c ?_) (fun hc => d ?_) | refine zv (b ?_) | refine zw (a ?_)) <;> clear a b c d A B C D <;> try simp only [yL] at hc)) | refine zA ?_ | refine zB ?_ | refine zF ?_)
  refine GW_loop (fun k fr H2 => ∃ (j : Nat) (ov dv : Value) (L : List LV), k = M.length - j ∧ j ≤ M.length ∧ fr.get 4 = some (ov) ∧ fr.get 5 = some (dv) ∧ fr.get 16 = some (mv) ∧ fr.get 17 = some (.int .i64 M.length) ∧ fr.get 18 = some (.int .i64 j) ∧ SpI H1 H2 ov dv L (outF M j) ((dgF M j).take 50)) ?_ M.length ?_
  rotate_left
  · refine ⟨0, .slice none 0 0, .slice none 0 0, [], by omega, by omega, ?_⟩
    simp only [↓yG, Nat.reduceEqDiff, ↓reduceIte, Int.natCast_add, Int.cast_ofNat_Int, Int.natCast_zero, true_and, and_true, Option.some.injEq, Value.int.injEq]
    exact ⟨LOut.nil (Same.refl hS1.wf), rfl, OS.nil (Same.refl hS1.wf), fun _ => rfl⟩
  rintro k fr H2 ⟨j, ov, dv, L, rfl, hj, f4, f5, f16, f17, f18, hI⟩ J hJ
  by_cases hj1 : j < M.length
  case neg =>
    obtain rfl : j = M.length := by omega
    repeat' (first | (exfalso; omega) | refine zn ?_ | refine zK rfl ?_ | refine zP rfl ?_ | ((first | refine zm ?_ | skip); intro _; intros; simp (disch := first | exact zd | fail) only [↓yS, yT, gresults, gone, ↓reduceIte, Nat.reduceEqDiff, Nat.reduceAdd, Nat.reduceMul, reduceCtorEq, Int.reduceToNat, g30, f4, f5, f16, f17, f18]; first | (rename_i K k; (first | refine yC (k _ _ ?_) | refine zg (k _ ?_)); clear k K) | (rename_i A B C D a b c d; (first | refine zx (a ?_) | refine zy (b ?_) | refine zz (fun hc => c ?_) (fun hc => d ?_) | refine zv (b ?_) | refine zw (a ?_)) <;> clear a b c d A B C D <;> try simp only [yL] at hc)) | refine zA ?_ | refine zB ?_ | refine zF ?_)
    exact hPost _ _ ⟨ov, dv, L, rfl, hI.out.weaken hS1, by rw [hL]; exact hI.map, by rw [hD]; exact hI.dg.arg, by rw [hD]; exact hI.nil⟩
  have hS2 := hI.dg.same
  have hw2 := hS2.wf
  have hlim2 := hw2.1
  have e1 := SRd.at_ (GArg1.same hM hS1.wf hS2) hj1
  have hsl := hlin _ (bang_mem hj1)
  have hoS := outF_succ M j
  have hdS := dgF_succ M j
  have hLl : L.length ≤ j := by
    have h1 := congrArg List.length hI.map
    rw [List.length_map] at h1
    have := outF_len M j
    omega
  have hDl : ((dgF M j).take 50).length ≤ 50 := by rw [List.length_take]; omega
  generalize M[j]! = s at *
  have hlsS := strB_size s
  have hslD := hI.dg.rd.isSl
  have hZ : ∀ C : List Value, Same H2 ((H2.add (some (.cells [.int .i64 0, .int .i64 0, .int .i64 0] 0 true))).put H2.len (.cells C 0 true)) := fun C => (Same.refl hw2).new _ _
  by_cases hlong : 1000 < s.length
  · have hlr := lineR_long hlong
    rw [hlr] at hoS hdS
    simp only [List.append_nil] at hoS
    have hone := take50_one (D := dgF M j) (x := ⟨j + 1, 1001, 9⟩)
    rw [← hdS] at hone
    have hI3 := hI.later (hZ [.int .i64 ((j : Int) + 1), .int .i64 1001, .int .i64 9])
    by_cases h50 : ((dgF M j).take 50).length < 50
    · rw [if_pos h50] at hone
      repeat' (first | (exfalso; omega) | refine zn ?_ | refine zK rfl ?_ | refine zP rfl ?_ | ((first | refine zm ?_ | skip); intro _; intros; simp (disch := first | exact zd | fail) only [↓yS, yT, gresults, gone, ↓reduceIte, Nat.reduceEqDiff, Nat.reduceAdd, Nat.reduceMul, reduceCtorEq, Int.reduceToNat, g30, f4, f5, f16, f17, f18, hslM.ia, e1, hlsS, hslD.len]; first | (rename_i K k; (first | refine yC (k _ _ ?_) | refine zg (k _ ?_)); clear k K) | (rename_i A B C D a b c d; (first | refine zx (a ?_) | refine zy (b ?_) | refine zz (fun hc => c ?_) (fun hc => d ?_) | refine zv (b ?_) | refine zw (a ?_)) <;> clear a b c d A B C D <;> try simp only [yL] at hc)) | refine zA ?_ | refine zB ?_ | refine zF ?_)
      rw [dg_cells (a := j + 1) (b := 1001) (c := 9) (A := (j : Int) + 1) (B := 1001) (C := 9) (by omega) (by omega) (by omega)]
      refine Gw_s fun K' hK' => ?_
      simp (disch := first | exact zd | fail) only [↓yS, yT, ↓reduceIte, Nat.reduceEqDiff, Nat.reduceAdd, Nat.reduceMul, reduceCtorEq, Int.reduceToNat, f4, f5, f16, f17, f18]
      obtain ⟨v2, H4, e, hI4⟩ := hI3.addD ⟨j + 1, 1001, 9⟩ (by omega)
      refine G1_eq e (hK' _ _ ?_)
      clear hK' K' e
      repeat' (first | (exfalso; omega) | refine zn ?_ | refine zK rfl ?_ | refine zP rfl ?_ | ((first | refine zm ?_ | skip); intro _; intros; simp (disch := first | exact zd | fail) only [↓yS, yT, gresults, gone, ↓reduceIte, Nat.reduceEqDiff, Nat.reduceAdd, Nat.reduceMul, reduceCtorEq, Int.reduceToNat, g30, f4, f5, f16, f17, f18]; first | (rename_i K k; (first | refine yC (k _ _ ?_) | refine zg (k _ ?_)); clear k K) | (rename_i A B C D a b c d; (first | refine zx (a ?_) | refine zy (b ?_) | refine zz (fun hc => c ?_) (fun hc => d ?_) | refine zv (b ?_) | refine zw (a ?_)) <;> clear a b c d A B C D <;> try simp only [yL] at hc)) | refine zA ?_ | refine zB ?_ | refine zF ?_)
      refine hJ _ _ ⟨M.length - (j + 1), by omega, j + 1, ov, v2, L, rfl, by omega, ?_⟩
      simp only [↓yG, Nat.reduceEqDiff, ↓reduceIte, Int.natCast_add, Int.cast_ofNat_Int, Int.natCast_zero, true_and, and_true, Option.some.injEq, Value.int.injEq, f4, f16, f17]
      rw [hone, hoS]; exact hI4
    · rw [if_neg h50] at hone
      repeat' (first | (exfalso; omega) | refine zn ?_ | refine zK rfl ?_ | refine zP rfl ?_ | ((first | refine zm ?_ | skip); intro _; intros; simp (disch := first | exact zd | fail) only [↓yS, yT, gresults, gone, ↓reduceIte, Nat.reduceEqDiff, Nat.reduceAdd, Nat.reduceMul, reduceCtorEq, Int.reduceToNat, g30, f4, f5, f16, f17, f18, hslM.ia, e1, hlsS, hslD.len]; first | (rename_i K k; (first | refine yC (k _ _ ?_) | refine zg (k _ ?_)); clear k K) | (rename_i A B C D a b c d; (first | refine zx (a ?_) | refine zy (b ?_) | refine zz (fun hc => c ?_) (fun hc => d ?_) | refine zv (b ?_) | refine zw (a ?_)) <;> clear a b c d A B C D <;> try simp only [yL] at hc)) | refine zA ?_ | refine zB ?_ | refine zF ?_)
      refine hJ _ _ ⟨M.length - (j + 1), by omega, j + 1, ov, dv, L, rfl, by omega, ?_⟩
      simp only [↓yG, Nat.reduceEqDiff, ↓reduceIte, Int.natCast_add, Int.cast_ofNat_Int, Int.natCast_zero, true_and, and_true, Option.some.injEq, Value.int.injEq, f4, f5, f16, f17]
      rw [hone, hoS]; exact hI3
  repeat' (first | (exfalso; omega) | refine zn ?_ | refine zK rfl ?_ | refine zP rfl ?_ | ((first | refine zm ?_ | skip); intro _; intros; simp (disch := first | exact zd | fail) only [↓yS, yT, gresults, gone, ↓reduceIte, Nat.reduceEqDiff, Nat.reduceAdd, Nat.reduceMul, reduceCtorEq, Int.reduceToNat, g30, f4, f5, f16, f17, f18, hslM.ia, e1, hlsS]; first | (rename_i K k; (first | refine yC (k _ _ ?_) | refine zg (k _ ?_)); clear k K) | (rename_i A B C D a b c d; (first | refine zx (a ?_) | refine zy (b ?_) | refine zz (fun hc => c ?_) (fun hc => d ?_) | refine zv (b ?_) | refine zw (a ?_)) <;> clear a b c d A B C D <;> try simp only [yL] at hc)) | refine zA ?_ | refine zB ?_ | refine zF ?_)
  have hS3 := hZ [.int .i64 ((j : Int) + 1), .int .i64 0, .int .i64 0]
  have hm3 : ((H2.add (some (.cells [.int .i64 0, .int .i64 0, .int .i64 0] 0 true))).put H2.len (.cells [.int .i64 ((j : Int) + 1), .int .i64 0, .int .i64 0] 0 true)).mine H2.len = some ([.int .i64 ((j : Int) + 1), .int .i64 0, .int .i64 0], 0) := mine_put_same (by simp only [lim_put, lim_add]; exact hlim2)
  have hl3 : ((H2.add (some (.cells [.int .i64 0, .int .i64 0, .int .i64 0] 0 true))).put H2.len (.cells [.int .i64 ((j : Int) + 1), .int .i64 0, .int .i64 0] 0 true)).len = H2.len + 1 := by simp only [len_put, len_add]
  generalize (H2.add (some (.cells [.int .i64 0, .int .i64 0, .int .i64 0] 0 true))).put H2.len (.cells [.int .i64 ((j : Int) + 1), .int .i64 0, .int .i64 0] 0 true) = H3 at *
  refine Gw_s fun K' hK' => G1_call (by simp only [gtarget, ↓GArg.ev, ↓evs, ↓Tr.get_set, Nat.reduceEqDiff, if_true, if_false, ↓reduceIte, Option.map_some, f4, f5, f16, f17, f18]; rfl) (fields_ok hS3.wf (l := s) (by omega)) fun r4 H4 hq => hK' _ _ ?_
  have hS4 : Same H3 H4 := by
    cases hfl : flds s 0 with
    | ok F => rw [hfl] at hq; obtain ⟨_, _, h⟩ := hq; exact h.same
    | bad i => rw [hfl] at hq; exact hq.2
  have hm4 : H4.mine H2.len = some ([.int .i64 ((j : Int) + 1), .int .i64 0, .int .i64 0], 0) := by rw [hS4.mine (by omega)]; exact hm3
  have hI4 := (hI.later hS3).later hS4
  have hlt4 : H2.len < H4.len := by have := hS4.len; omega
  have hP4 : ∀ C : List Value, Same H2 (H4.put H2.len (.cells C 0 true)) := fun C => (hS3.trans hS4).put (Nat.le_refl _) hlt4 _
  have hw4 := hS4.wf
  have hlim4 := hw4.1
  have hlm4 := (mine_obj hm4).1
  cases hfl : flds s 0 with
  | bad i =>
    have hlr := lineR_bad hlong hfl
    rw [hfl] at hq
    obtain ⟨rfl, _⟩ := hq
    rw [hlr] at hoS hdS
    simp only [List.append_nil] at hoS
    have hib := flds_bad _ 0 i (Nat.le_refl _) hfl
    have hone := take50_one (D := dgF M j) (x := ⟨j + 1, i + 1, 4⟩)
    rw [← hdS] at hone
    have hI5 := hI.later (hP4 [.int .i64 ((j : Int) + 1), .int .i64 ((i : Int) + 1), .int .i64 4])
    by_cases h50 : ((dgF M j).take 50).length < 50
    · rw [if_pos h50] at hone
      repeat' (first | (exfalso; omega) | refine zn ?_ | refine zK rfl ?_ | refine zP rfl ?_ | ((first | refine zm ?_ | skip); intro _; intros; simp (disch := first | exact zd | fail) only [↓yS, yT, gresults, gone, ↓reduceIte, Nat.reduceEqDiff, Nat.reduceAdd, Nat.reduceMul, reduceCtorEq, Int.reduceToNat, g30, f4, f5, f16, f17, f18, hm4, hslD.len]; first | (rename_i K k; (first | refine yC (k _ _ ?_) | refine zg (k _ ?_)); clear k K) | (rename_i A B C D a b c d; (first | refine zx (a ?_) | refine zy (b ?_) | refine zz (fun hc => c ?_) (fun hc => d ?_) | refine zv (b ?_) | refine zw (a ?_)) <;> clear a b c d A B C D <;> try simp only [yL] at hc)) | refine zA ?_ | refine zB ?_ | refine zF ?_)
      rw [dg_cells (a := j + 1) (b := i + 1) (c := 4) (A := (j : Int) + 1) (B := (i : Int) + 1) (C := 4) (by omega) (by omega) (by omega)]
      refine Gw_s fun K' hK' => ?_
      simp (disch := first | exact zd | fail) only [↓yS, yT, ↓reduceIte, Nat.reduceEqDiff, Nat.reduceAdd, Nat.reduceMul, reduceCtorEq, Int.reduceToNat, f4, f5, f16, f17, f18]
      obtain ⟨v2, H6, e, hI6⟩ := hI5.addD ⟨j + 1, i + 1, 4⟩ (by omega)
      refine G1_eq e (hK' _ _ ?_)
      clear hK' K' e
      repeat' (first | (exfalso; omega) | refine zn ?_ | refine zK rfl ?_ | refine zP rfl ?_ | ((first | refine zm ?_ | skip); intro _; intros; simp (disch := first | exact zd | fail) only [↓yS, yT, gresults, gone, ↓reduceIte, Nat.reduceEqDiff, Nat.reduceAdd, Nat.reduceMul, reduceCtorEq, Int.reduceToNat, g30, f4, f5, f16, f17, f18]; first | (rename_i K k; (first | refine yC (k _ _ ?_) | refine zg (k _ ?_)); clear k K) | (rename_i A B C D a b c d; (first | refine zx (a ?_) | refine zy (b ?_) | refine zz (fun hc => c ?_) (fun hc => d ?_) | refine zv (b ?_) | refine zw (a ?_)) <;> clear a b c d A B C D <;> try simp only [yL] at hc)) | refine zA ?_ | refine zB ?_ | refine zF ?_)
      refine hJ _ _ ⟨M.length - (j + 1), by omega, j + 1, ov, v2, L, rfl, by omega, ?_⟩
      simp only [↓yG, Nat.reduceEqDiff, ↓reduceIte, Int.natCast_add, Int.cast_ofNat_Int, Int.natCast_zero, true_and, and_true, Option.some.injEq, Value.int.injEq, f4, f16, f17]
      rw [hone, hoS]; exact hI6
    · rw [if_neg h50] at hone
      repeat' (first | (exfalso; omega) | refine zn ?_ | refine zK rfl ?_ | refine zP rfl ?_ | ((first | refine zm ?_ | skip); intro _; intros; simp (disch := first | exact zd | fail) only [↓yS, yT, gresults, gone, ↓reduceIte, Nat.reduceEqDiff, Nat.reduceAdd, Nat.reduceMul, reduceCtorEq, Int.reduceToNat, g30, f4, f5, f16, f17, f18, hm4, hslD.len]; first | (rename_i K k; (first | refine yC (k _ _ ?_) | refine zg (k _ ?_)); clear k K) | (rename_i A B C D a b c d; (first | refine zx (a ?_) | refine zy (b ?_) | refine zz (fun hc => c ?_) (fun hc => d ?_) | refine zv (b ?_) | refine zw (a ?_)) <;> clear a b c d A B C D <;> try simp only [yL] at hc)) | refine zA ?_ | refine zB ?_ | refine zF ?_)
      refine hJ _ _ ⟨M.length - (j + 1), by omega, j + 1, ov, dv, L, rfl, by omega, ?_⟩
      simp only [↓yG, Nat.reduceEqDiff, ↓reduceIte, Int.natCast_add, Int.cast_ofNat_Int, Int.natCast_zero, true_and, and_true, Option.some.injEq, Value.int.injEq, f4, f5, f16, f17]
      rw [hone, hoS]; exact hI5
  | ok F =>
    have hlr := lineR_ok hlong hfl
    rw [hfl] at hq
    obtain ⟨fv, rfl, hF⟩ := hq
    rw [hlr] at hoS hdS
    simp only [List.append_nil] at hdS
    have hslF := hF.rd.isSl
    have hI5 := hI.later (hP4 [.int .i64 ((j : Int) + 1), .int .i64 0, .int .i64 0])
    have hB5 : But (fun k => k = H2.len) H4 (H4.put H2.len (.cells [.int .i64 ((j : Int) + 1), .int .i64 0, .int .i64 0] 0 true)) := (But.refl (S := fun k => k = H2.len) hw4).put (i := H2.len) rfl hlt4 _
    have hF5 := (hF.weaken (hS2.trans hS3)).but hB5 (fun k hk e => by have := hS2.len; omega) (fun a ha e => by have := (hF.ids ha).1; omega)
    have hFn := (flds_size _ 0 F (Nat.le_refl _) hfl).1
    have hFl : F.length ≤ 1000 := by split at hFn <;> omega
    cases F with
    | nil =>
      simp only [List.append_nil] at hoS
      repeat' (first | (exfalso; omega) | refine zn ?_ | refine zK rfl ?_ | refine zP rfl ?_ | ((first | refine zm ?_ | skip); intro _; intros; simp (disch := first | exact zd | fail) only [↓yS, yT, gresults, gone, ↓reduceIte, Nat.reduceEqDiff, Nat.reduceAdd, Nat.reduceMul, reduceCtorEq, Int.reduceToNat, g30, f4, f5, f16, f17, f18, hm4, hslF.len, List.length_nil]; first | (rename_i K k; (first | refine yC (k _ _ ?_) | refine zg (k _ ?_)); clear k K) | (rename_i A B C D a b c d; (first | refine zx (a ?_) | refine zy (b ?_) | refine zz (fun hc => c ?_) (fun hc => d ?_) | refine zv (b ?_) | refine zw (a ?_)) <;> clear a b c d A B C D <;> try simp only [yL] at hc)) | refine zA ?_ | refine zB ?_ | refine zF ?_)
      refine hJ _ _ ⟨M.length - (j + 1), by omega, j + 1, ov, dv, L, rfl, by omega, ?_⟩
      simp only [↓yG, Nat.reduceEqDiff, ↓reduceIte, Int.natCast_add, Int.cast_ofNat_Int, Int.natCast_zero, true_and, and_true, Option.some.injEq, Value.int.injEq, f4, f5, f16, f17]
      rw [hdS, hoS]; exact hI5
    | cons f F =>
      have hFp : 1 ≤ (f :: F).length := by simp
      simp only at hoS
      generalize hFF : f :: F = F' at *
      have hne : F' ≠ [] := by rw [← hFF]; simp
      have hff := hF.flat
      have hb1 := fun k => build_ln (k := k) hff
      have hb2 := fun k => fill_lnv (k := k) hff
      repeat' (first | (exfalso; omega) | refine zn ?_ | refine zK rfl ?_ | refine zP rfl ?_ | ((first | refine zm ?_ | skip); intro _; intros; simp (disch := first | exact zd | fail) only [↓yS, yT, gresults, gone, ↓reduceIte, Nat.reduceEqDiff, Nat.reduceAdd, Nat.reduceMul, reduceCtorEq, Int.reduceToNat, g30, f4, f5, f16, f17, f18, hm4, hslF.len, hb1, hb2]; first | (rename_i K k; (first | refine yC (k _ _ ?_) | refine zg (k _ ?_)); clear k K) | (rename_i A B C D a b c d; (first | refine zx (a ?_) | refine zy (b ?_) | refine zz (fun hc => c ?_) (fun hc => d ?_) | refine zv (b ?_) | refine zw (a ?_)) <;> clear a b c d A B C D <;> try simp only [yL] at hc)) | refine zA ?_ | refine zB ?_ | refine zF ?_)
      have hcl : ([.int .i64 ((j : Int) + 1), fv] : List Value) = lnC (fv, ⟨j + 1, F'⟩) := rfl
      rw [hcl]
      refine Gw_s fun K' hK' => ?_
      simp (disch := first | exact zd | fail) only [↓yS, yT, ↓reduceIte, Nat.reduceEqDiff, Nat.reduceAdd, Nat.reduceMul, reduceCtorEq, Int.reduceToNat, f4, f5, f16, f17, f18]
      obtain ⟨v2, H6, e, hI6⟩ := hI5.addL (x := ⟨j + 1, F'⟩) hF5 hne (by omega)
      refine G1_eq e (hK' _ _ ?_)
      clear hK' K' e
      repeat' (first | (exfalso; omega) | refine zn ?_ | refine zK rfl ?_ | refine zP rfl ?_ | ((first | refine zm ?_ | skip); intro _; intros; simp (disch := first | exact zd | fail) only [↓yS, yT, gresults, gone, ↓reduceIte, Nat.reduceEqDiff, Nat.reduceAdd, Nat.reduceMul, reduceCtorEq, Int.reduceToNat, g30, f4, f5, f16, f17, f18]; first | (rename_i K k; (first | refine yC (k _ _ ?_) | refine zg (k _ ?_)); clear k K) | (rename_i A B C D a b c d; (first | refine zx (a ?_) | refine zy (b ?_) | refine zz (fun hc => c ?_) (fun hc => d ?_) | refine zv (b ?_) | refine zw (a ?_)) <;> clear a b c d A B C D <;> try simp only [yL] at hc)) | refine zA ?_ | refine zB ?_ | refine zF ?_)
      refine hJ _ _ ⟨M.length - (j + 1), by omega, j + 1, v2, dv, L ++ [(fv, ⟨j + 1, F'⟩)], rfl, by omega, ?_⟩
      simp only [↓yG, Nat.reduceEqDiff, ↓reduceIte, Int.natCast_add, Int.cast_ofNat_Int, Int.natCast_zero, true_and, and_true, Option.some.injEq, Value.int.injEq, f5, f16, f17]
      rw [hdS, hoS]; exact hI6
structure SrI (src : List UInt8) (M : List (List UInt8)) (i s j : Nat) : Prop where
  at_ : (i ≤ src.length ∧ s ≤ i ∧ M.drop j = lns (src.drop s) ∧ 10 ∉ (src.take i).drop s) ∨ (i = src.length + 1 ∧ j = M.length)
theorem SrI.next {src : List UInt8} {M : List (List UInt8)} {i s j : Nat} (h : SrI src M i s j) (hi : i < src.length) (hb : ¬ src[i]! = 10) : SrI src M (i + 1) s j := by
  rcases h.at_ with ⟨h1, h2, h3, h4⟩ | ⟨h1, _⟩
  · refine ⟨.inl ⟨by omega, by omega, h3, fun hm => ?_⟩⟩
    rw [List.take_succ_eq_append_getElem hi, List.drop_append_of_le_length (by simp; omega), ← getElem!_pos src i hi] at hm
    rcases List.mem_append.1 hm with hm | hm
    · exact h4 hm
    · rw [List.mem_singleton] at hm; exact hb hm.symm
  · omega
theorem DgC_take (l : List Dg) : ∀ n : Nat, (DgC l).take (n * 3) = DgC (l.take n) := by
  induction l with
  | nil => intro n; simp [DgC]
  | cons x l ih =>
    intro n
    cases n with
    | zero => simp [DgC]
    | succ n =>
      have h1 := ih n
      unfold DgC at h1 ⊢
      rw [List.flatMap_cons, List.take_succ_cons, List.flatMap_cons, List.take_append, dgC_len]
      rw [show (n + 1) * 3 - 3 = n * 3 by omega, h1, List.take_of_length_le (by rw [dgC_len]; omega)]
end Go.Gh
