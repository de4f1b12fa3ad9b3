/-
  style, walked: neighbours that are alike.
-/
import Derived.Test.YtgbibkkcnkaelaaDoorSyA
namespace Go.Gh
set_option linter.unusedSimpArgs false
set_option linter.unusedVariables false
open Go.RowKit
set_option maxRecDepth 4000

theorem runC_0 (x : SR) : (runC x)[0]? = some (.string (strB x.t)) := rfl
theorem runC_1 (x : SR) : (runC x)[1]? = some (.int .u8 x.s.c) := rfl
theorem runC_2 (x : SR) : (runC x)[2]? = some (.bool x.s.i) := rfl
theorem runC_3 (x : SR) : (runC x)[3]? = some (.bool x.s.u) := rfl
theorem runC_4 (x : SR) : (runC x)[4]? = some (.string (strB x.y)) := rfl
theorem syC_0 (x : Sy) : (syC x)[0]? = some (.int .u8 x.c) := rfl
theorem syC_1 (x : Sy) : (syC x)[1]? = some (.bool x.i) := rfl
theorem syC_2 (x : Sy) : (syC x)[2]? = some (.bool x.u) := rfl
theorem runC_flat (x : SR) : (runC x).all flatV = true := by simp [runC, flatV]
theorem syC_flat (x : Sy) : (syC x).all flatV = true := by simp [syC, flatV]
theorem run_cells (x : SR) : (runV x).cells.toList = runC x := rfl
theorem sy_cells (x : Sy) : (syV x).cells.toList = syC x := rfl
theorem run_cflat (x : SR) : (runV x).cells.all flatV = true := by
  rw [← Array.all_toList]; exact runC_flat x
theorem sy_cflat (x : Sy) : (syV x).cells.all flatV = true := by
  rw [← Array.all_toList]; exact syC_flat x
theorem gsetn_run {cs : List Value} {x : SR} (h : cs.length = 5) : gsetn cs 0 5 (runV x) = some (runC x) := gsetn_all h rfl (by simp [flatV])
theorem gsetn_sy {cs : List Value} {x : Sy} (h : cs.length = 3) : gsetn cs 0 3 (syV x) = some (syC x) := gsetn_all h rfl (by simp [flatV])
theorem fill_run {x : SR} : fillL (zeros [.string ⟨#[]⟩, .int .u8 0, .bool false, .bool false, .string ⟨#[]⟩] 1) [(0, 5, runV x)] = some (runC x) := by
  simp [fillL, run_cells, runC_flat, zeros, runC_len]
theorem rdn_run {H : GHeap} {j : Nat} {x : SR} {u : Nat} {b : Bool} (h : H.len = j) : (H.add (some (.cells (runC x) u b))).rdn j 0 5 = some (runV x) := rdn_add_all h rfl
theorem rdn_run3 {H : GHeap} {j : Nat} {x : SR} {u : Nat} {b : Bool} (h : H.len = j) : (H.add (some (.cells (runC x) u b))).rdn j 1 3 = some (syV x.s) := by
  simp only [GHeap.rdn, cs_add_eq h]; rfl
theorem rdn_runp {H : GHeap} {j : Nat} {x : SR} {u : Nat} {b : Bool} : (H.put j (.cells (runC x) u b)).rdn j 0 5 = some (runV x) := rdn_put_all rfl
theorem rdn_run3p {H : GHeap} {j : Nat} {x : SR} {u : Nat} {b : Bool} : (H.put j (.cells (runC x) u b)).rdn j 1 3 = some (syV x.s) := by
  simp only [GHeap.rdn, cs_put_same]; rfl
theorem rdn_sy {H : GHeap} {j : Nat} {x : Sy} {u : Nat} {b : Bool} (h : H.len = j) : (H.add (some (.cells (syC x) u b))).rdn j 0 3 = some (syV x) := rdn_add_all h rfl
theorem rdn_syp {H : GHeap} {j : Nat} {x : Sy} {u : Nat} {b : Bool} : (H.put j (.cells (syC x) u b)).rdn j 0 3 = some (syV x) := rdn_put_all rfl
theorem gb_eqR' {a b : SR} : gbin .eql (some (.parts [(0, none, .str), (1, some 3, .parts [(0, none, .int), (1, none, .bool), (2, none, .bool)]), (4, none, .str)])) (runV a) (runV b) = some (.bool (decide (a = b))) := gb_eqR
theorem gb_neR' {a b : SR} : gbin .neq (some (.parts [(0, none, .str), (1, some 3, .parts [(0, none, .int), (1, none, .bool), (2, none, .bool)]), (4, none, .str)])) (runV a) (runV b) = some (.bool (decide (¬ a = b))) := gb_neR
theorem gb_eqS' {a b : Sy} : gbin .eql (some (.parts [(0, none, .int), (1, none, .bool), (2, none, .bool)])) (syV a) (syV b) = some (.bool (decide (a = b))) := gb_eqS
theorem gb_neS' {a b : Sy} : gbin .neq (some (.parts [(0, none, .int), (1, none, .bool), (2, none, .bool)])) (syV a) (syV b) = some (.bool (decide (¬ a = b))) := gb_neS
theorem gb_eqE {e : Option EqK} {a : List UInt8} : gbin .eql e (.string (strB a)) (.string ⟨#[]⟩) = some (.bool (decide (a = []))) := gb_eqlB (b := [])
theorem gb_neE {e : Option EqK} {a : List UInt8} : gbin .neq e (.string (strB a)) (.string ⟨#[]⟩) = some (.bool (decide (¬ a = []))) := gb_neqB (b := [])
theorem RN : type_of% (And.intro (And.intro (And.intro (And.intro @runC_0 @runC_1) (And.intro @runC_2 @runC_3)) (And.intro (And.intro @runC_4 @syC_0) (And.intro @syC_1 @syC_2))) (And.intro (And.intro (And.intro @run_cells @sy_cells) (And.intro @run_cflat @sy_cflat)) (And.intro (And.intro (And.intro @gsetn_run @gsetn_sy) (And.intro @fill_run @rdn_run)) (And.intro (And.intro (And.intro @rdn_run3 @rdn_runp) (And.intro @rdn_run3p @rdn_sy)) (And.intro (And.intro (And.intro @rdn_syp @gb_eqR') (And.intro @gb_neR' @gb_eqS')) (And.intro @gb_neS' (And.intro @gb_eqE @gb_neE))))))) := ⟨⟨⟨⟨@runC_0, @runC_1⟩, ⟨@runC_2, @runC_3⟩⟩, ⟨⟨@runC_4, @syC_0⟩, ⟨@syC_1, @syC_2⟩⟩⟩, ⟨⟨⟨@run_cells, @sy_cells⟩, ⟨@run_cflat, @sy_cflat⟩⟩, ⟨⟨⟨@gsetn_run, @gsetn_sy⟩, ⟨@fill_run, @rdn_run⟩⟩, ⟨⟨⟨@rdn_run3, @rdn_runp⟩, ⟨@rdn_run3p, @rdn_sy⟩⟩, ⟨⟨⟨@rdn_syp, @gb_eqR'⟩, ⟨@gb_neR', @gb_eqS'⟩⟩, ⟨@gb_neS', ⟨@gb_eqE, @gb_neE⟩⟩⟩⟩⟩⟩⟩
theorem lit_run (x : SR) : litOk (runV x) = true := by simp [runV, litOk, litFlat]
theorem lit_sy (x : Sy) : litOk (syV x) = true := by simp [syV, litOk, litFlat]
def alikeF (a b : SR) : Bool := decide (a.s = b.s) && decide (a.y = []) && decide (b.y = [])
theorem alike_ok (a b : SR) (H : GHeap) : gev G 66 [runV a, runV b] H = some (.bool (alikeF a b), H) := by
  refine gev_GWP (f := 66) rfl (by simp [lit_run]) rfl (fun Post hPost => ?_) H
  have hw := root_wf
  have hlim := hw.1
  simp only [frameOf, Nat.reduceAdd]
  repeat' (first | refine zA ?_ | refine zB ?_ | refine zC ?_ | refine zD ?_ | refine zE ?_ | refine zF ?_ | refine zG ?_ | refine zH ?_ | refine zI ?_ | refine zJ ?_ | refine zK rfl ?_ | refine zL ?_ | refine zM ?_ | refine zN ?_ | refine zO ?_ | refine zP rfl ?_ | refine zQ ?_ | ((first | refine zR ?_ | refine zS ?_ | refine zT ?_ | skip); intro K k; simp (disch := (first | (simp only [yD2, beq_self_eq_true, Nat.reduceLT, Nat.reduceAdd]; done) | ((fail_if_success (apply Bool.eq_iff_iff.2)); first | omega | (simp only [yD2, beq_self_eq_true, Nat.reduceLT, Nat.reduceAdd] <;> omega)) | fail)) only [↓yS, yT, ↓reduceIte, Nat.reduceEqDiff, Nat.reduceAdd, Nat.reduceMul, reduceCtorEq, Int.reduceToNat, g66, RN]; refine yC (k _ _ ?_); clear k K) | ((first | refine zU ?_ | refine zV ?_ | refine zW ?_); intro A B C D a b c d; simp only [↓yG, Nat.reduceEqDiff, ↓reduceIte, g66, RN]; (first | refine zX (a ?_) | refine zY (b ?_) | refine zZ (fun hc => c ?_) (fun hc => d ?_)) <;> clear a b c d A B C D <;> try simp only [yL] at hc) | (refine yA ?_; intro A a; simp only [↓yG, Nat.reduceEqDiff, ↓reduceIte, g66, RN]; refine yB (a ?_); clear a A) | (refine yD ?_; simp only [gresults, ↓yG, Nat.reduceEqDiff, ↓reduceIte, Option.bind_some, gld_1, gld_n, g66, RN]; refine ⟨_, rfl, ?_⟩; simp only [gone]))
  case refine_1.refine_1 =>
    have : alikeF a b = decide (b.y = []) := by simp [alikeF, *]
    rw [this] at hPost
    exact hPost _
  all_goals
    have : alikeF a b = false := by simp [alikeF, *]
    rw [this] at hPost
    exact hPost _
/-! ### the normal form -/
def lastR (l : List SR) : SR := l[l.length - 1]!
def pushN (out : List SR) (x : SR) : List SR :=
  if x.t = [] then out else if 0 < out.length ∧ alikeF (lastR out) x = true then out.set (out.length - 1) {lastR out with t := (lastR out).t ++ x.t} else out ++ [x]
def normF (l : List SR) : List SR := l.foldl pushN []
def tot (l : List SR) : Nat := (l.map fun x => x.t.length).sum
theorem tot_nil : tot [] = 0 := rfl
theorem tot_cons (x : SR) (l : List SR) : tot (x :: l) = x.t.length + tot l := by simp [tot]
theorem tot_append (a b : List SR) : tot (a ++ b) = tot a + tot b := by simp [tot]
theorem tot_take (l : List SR) {j : Nat} (h : j < l.length) : tot (l.take (j + 1)) = tot (l.take j) + l[j]!.t.length := by
  rw [List.take_succ_eq_append_getElem h, tot_append, ← getElem!_pos l j h]
  simp [tot]
theorem tot_le (l : List SR) (j : Nat) : tot (l.take j) ≤ tot l := by
  have h : tot l = tot (l.take j) + tot (l.drop j) := by rw [← tot_append, List.take_append_drop]
  omega
theorem last_split {l : List SR} (h : 0 < l.length) : ∃ p, l = p ++ [lastR l] ∧ p.length = l.length - 1 := by
  refine ⟨l.take (l.length - 1), ?_, by simp⟩
  have := List.take_succ_eq_append_getElem (l := l) (i := l.length - 1) (by omega)
  rw [show l.length - 1 + 1 = l.length from by omega, List.take_length, ← getElem!_pos l _ (by omega)] at this
  exact this
theorem pushN_tot (out : List SR) (x : SR) : tot (pushN out x) = tot out + x.t.length ∧ (pushN out x).length ≤ out.length + 1 := by
  unfold pushN
  split
  · rename_i h; rw [h]; simp
  · split
    · rename_i h
      obtain ⟨p, e, hp⟩ := last_split h.1
      refine ⟨?_, by simp⟩
      generalize lastR out = z at *
      have : out.set (out.length - 1) {z with t := z.t ++ x.t} = p ++ [{z with t := z.t ++ x.t}] := by
        rw [← hp]
        conv => lhs; rw [e]
        simp
      rw [this, e, tot_append, tot_append]
      simp [tot]; omega
    · rw [tot_append]; simp [tot]
theorem foldN_tot : ∀ (l : List SR) (out : List SR), tot (l.foldl pushN out) = tot out + tot l ∧ (l.foldl pushN out).length ≤ out.length + l.length
  | [], out => by simp [tot]
  | x :: l, out => by
    have h1 := pushN_tot out x
    have h2 := foldN_tot l (pushN out x)
    rw [List.foldl_cons, tot_cons, List.length_cons]
    omega
theorem normF_tot (l : List SR) : tot (normF l) = tot l ∧ (normF l).length ≤ l.length := by
  have := foldN_tot l []
  simp only [tot_nil, List.length_nil, Nat.zero_add] at this
  exact this
theorem normF_take {l : List SR} {j : Nat} (h : j < l.length) : normF (l.take (j + 1)) = pushN (normF (l.take j)) l[j]! := by
  rw [normF, List.take_succ_eq_append_getElem h, List.foldl_append, ← getElem!_pos l j h]; rfl
theorem last_le {l : List SR} (h : 0 < l.length) : (lastR l).t.length ≤ tot l := by
  obtain ⟨p, e, _⟩ := last_split h
  generalize lastR l = z at *
  rw [e, tot_append]
  simp [tot]
/-- a text of one's own run, set -/
theorem OR.setT {H0 H : GHeap} {w : Value} {out : List SR} (h : OR H0 H w out) {k : Nat} (hk : k < out.length) (t : List UInt8) :
    ∃ H', gst none H (.pointer (some ⟨blk w, ofs w + k * 5, none⟩)) (.string (strB t)) = some H' ∧ OR H0 H' w (out.set k {out[k]! with t := t}) ∧ But (fun z => z ∈ idOf w) H H' := by
  obtain ⟨g, gc, e, hg, hm⟩ : ∃ g gc, w = .slice (some ⟨g, 0, none⟩) out.length gc ∧ (gc = 0 ∨ gc = out.length + 1) ∧ H.mine g = some (RunsC out, 5) := by
    rcases h.own.at_ with ⟨_, e⟩ | h
    · omega
    · exact h
  have hblk : blk w = g := by rw [e]; rfl
  have hofs : ofs w = 0 := by rw [e]; rfl
  obtain ⟨h1, h2⟩ := h.setc e (ys := (RunsC out).set (k * 5) (.string (strB t))) (by simp)
  rw [RunsC_set _ _ _ hk] at h1 h2
  refine ⟨_, ?_, ?_, h2.mono fun z hz => by rw [hz, e]; simp [idOf]⟩
  · rw [hblk, hofs, Nat.zero_add, gst_1, hm, Option.bind_some, gset_ok (by rw [RunsC_len]; omega) flatV_str, Option.bind_some, RunsC_set _ _ _ hk]
  · have : (out.set k {out[k]! with t := t}).length = out.length := by simp
    unfold OR
    rw [this]; exact h1
theorem gb_addB {e : Option EqK} {a b : List UInt8} (h : a.length + b.length ≤ 9223372036854775807) : gbin .add e (.string (strB a)) (.string (strB b)) = some (.string (strB (a ++ b))) := by
  have := gb_addS (k := e) (a := a) (e := strB b) (by simpa [toL, strB] using h)
  rw [this]; simp [toL, strB]
theorem norm_ok {H : GHeap} (hw : H.wf) {v : Value} {l : List SR} (hv : RR H v l) (hll : l.length ≤ 16777216) (ht : tot l ≤ 70368744177664) :
    ∃ r H', gev G 48 [v] H = some (r, H') ∧ ∃ w, r = rowV w ∧ OR H H' w (normF l) := by
  refine gev_GW (f := 48) rfl fun Post hPost => ?_
  have hlim := hw.1
  have hsl := hv.isSl
  simp only [frameOf, Nat.reduceAdd]
  repeat' (first | refine zA ?_ | refine zB ?_ | refine zC ?_ | refine zD ?_ | refine zE ?_ | refine zF ?_ | refine zG ?_ | refine zH ?_ | refine zI ?_ | refine zJ ?_ | refine zK rfl ?_ | refine zL ?_ | refine zM ?_ | refine zN ?_ | refine zO ?_ | refine zP rfl ?_ | refine zQ ?_ | ((first | refine zR ?_ | refine zS ?_ | refine zT ?_ | skip); intro K k; simp (disch := (first | (simp only [yD2, beq_self_eq_true, Nat.reduceLT, Nat.reduceAdd]; done) | ((fail_if_success (apply Bool.eq_iff_iff.2)); first | omega | (simp only [yD2, beq_self_eq_true, Nat.reduceLT, Nat.reduceAdd] <;> omega)) | fail)) only [↓yS, yT, ↓reduceIte, Nat.reduceEqDiff, Nat.reduceAdd, Nat.reduceMul, reduceCtorEq, Int.reduceToNat, g48, hsl.len]; refine yC (k _ _ ?_); clear k K) | ((first | refine zU ?_ | refine zV ?_ | refine zW ?_); intro A B C D a b c d; simp only [↓yG, Nat.reduceEqDiff, ↓reduceIte, g48, hsl.len]; (first | refine zX (a ?_) | refine zY (b ?_) | refine zZ (fun hc => c ?_) (fun hc => d ?_)) <;> clear a b c d A B C D <;> try simp only [yL] at hc) | (refine yA ?_; intro A a; simp only [↓yG, Nat.reduceEqDiff, ↓reduceIte, g48, hsl.len]; refine yB (a ?_); clear a A) | (refine yD ?_; simp only [gresults, ↓yG, Nat.reduceEqDiff, ↓reduceIte, Option.bind_some, gld_1, gld_n, g48, hsl.len]; refine ⟨_, rfl, ?_⟩; simp only [gone]))
  refine GW_loop (fun k fr H1 => ∃ (j : Nat) (w : Value), k = l.length - j ∧ j ≤ l.length ∧ fr.get 2 = some (.pointer (some ⟨H.len, 0, none⟩)) ∧ fr.get 3 = some (.pointer (some ⟨H.len + 1, 0, none⟩)) ∧ fr.get 7 = some (v) ∧ fr.get 8 = some (.int .i64 l.length) ∧ fr.get 9 = some (.int .i64 j) ∧ H1.mine H.len = some ([.slice none 0 0], 0) ∧ H1.mine (H.len + 1) = some ([w], 0) ∧ OR H H1 w (normF (l.take j))) ?_ l.length ?_
  case refine_2 =>
    refine ⟨0, .slice none 0 0, by omega, by omega, ?_⟩
    simp only [↓yG, Nat.reduceEqDiff, ↓reduceIte, Int.natCast_add, Int.cast_ofNat_Int, Int.natCast_zero, true_and, and_true, Option.some.injEq, Value.int.injEq]
    refine ⟨?_, ?_, OS.nil (((Same.refl hw).add _).add _)⟩
    · rw [mine_add_ne (by rw [len_add]; omega), mine_add_eq rfl hlim]
    · rw [mine_add_eq (by rw [len_add]) (by rw [lim_add]; omega)]
  rintro k fr H1 ⟨j, w, rfl, hj, f2, f3, f7, f8, f9, m2, m3, hO⟩ J hJ
  have hS := hO.same
  have hw1 := hS.wf
  have hlim1 := hw1.1
  have hl2 := mine_lt hw1 m2
  have hl3 := mine_lt hw1 m3
  have hnt := normF_tot (l.take j)
  have htl := tot_le l j
  rw [List.length_take] at hnt
  generalize hout : normF (l.take j) = out at *
  have hso := hO.rr.isSl
  by_cases hj1 : j < l.length
  · have e1 := (hv.later hw hS).rowN hj1
    have htk := tot_take l hj1
    have htl2 := tot_le l (j + 1)
    have hstep : normF (l.take (j + 1)) = pushN out l[j]! := by rw [normF_take hj1, hout]
    generalize hx : l[j]! = x at *
    have r3 : H1.rd (H.len + 1) 0 = some w := mine_rd m3
    obtain ⟨H2, hH2⟩ : ∃ H2, H2 = (H1.add (some (.cells [.string ⟨#[]⟩, .int .u8 0, .bool false, .bool false, .string ⟨#[]⟩] 0 true))).put H1.len (.cells (runC x) 0 true) := ⟨_, rfl⟩
    have hS12 : Same H1 H2 := hH2 ▸ (Same.refl hw1).new _ _
    have hl2' : H2.len = H1.len + 1 := by rw [hH2, len_put, len_add]
    have hO2 := hO.later hS12
    have m2' : H2.mine H.len = some ([.slice none 0 0], 0) := by rw [hS12.mine hl2]; exact m2
    have m3' : H2.mine (H.len + 1) = some ([w], 0) := by rw [hS12.mine hl3]; exact m3
    have x5 : H2.rdn H1.len 0 5 = some (runV x) := by rw [hH2, rdn_runp]
    have x0 : H2.rd H1.len 0 = some (.string (strB x.t)) := by rw [hH2, rd_put_same]; rfl
    have r3' : H2.rd (H.len + 1) 0 = some w := mine_rd m3'
    have hw2 := hS12.wf
    have hlim2 := hw2.1
    repeat' (first | (exfalso; omega) | refine zA ?_ | refine zB ?_ | refine zC ?_ | refine zD ?_ | refine zE ?_ | refine zF ?_ | refine zG ?_ | refine zH ?_ | refine zI ?_ | refine zJ ?_ | refine zK rfl ?_ | refine zL ?_ | refine zM ?_ | refine zN ?_ | refine zO ?_ | refine zP rfl ?_ | refine zQ ?_ | ((first | refine zR ?_ | refine zS ?_ | refine zT ?_ | skip); intro K k; simp (disch := (first | (simp only [yD2, beq_self_eq_true, Nat.reduceLT, Nat.reduceAdd]; done) | ((fail_if_success (apply Bool.eq_iff_iff.2)); first | omega | (simp only [yD2, beq_self_eq_true, Nat.reduceLT, Nat.reduceAdd] <;> omega)) | fail)) only [↓yS, yT, ↓reduceIte, Nat.reduceEqDiff, Nat.reduceAdd, Nat.reduceMul, reduceCtorEq, Int.reduceToNat, g48, f2, f3, f7, f8, f9, RN, hsl.ia, e1, r3, hso.len]; refine yC (k _ _ ?_); clear k K) | ((first | refine zU ?_ | refine zV ?_ | refine zW ?_); intro A B C D a b c d; simp only [↓yG, Nat.reduceEqDiff, ↓reduceIte, g48, f2, f3, f7, f8, f9, RN, hsl.ia, e1, r3, hso.len]; (first | refine zX (a ?_) | refine zY (b ?_) | refine zZ (fun hc => c ?_) (fun hc => d ?_)) <;> clear a b c d A B C D <;> try simp only [yL] at hc) | (refine yA ?_; intro A a; simp only [↓yG, Nat.reduceEqDiff, ↓reduceIte, g48, f2, f3, f7, f8, f9, RN, hsl.ia, e1, r3, hso.len]; refine yB (a ?_); clear a A) | (refine yD ?_; simp only [gresults, ↓yG, Nat.reduceEqDiff, ↓reduceIte, Option.bind_some, gld_1, gld_n, g48, f2, f3, f7, f8, f9, RN, hsl.ia, e1, r3, hso.len]; refine ⟨_, rfl, ?_⟩; simp only [gone]))
    case pos.refine_1.refine_1 =>
      rw [← hH2]
      refine hJ _ _ ⟨l.length - (j + 1), by omega, j + 1, w, rfl, by omega, ?_⟩
      simp only [↓yG, Nat.reduceEqDiff, ↓reduceIte, Int.natCast_add, Int.cast_ofNat_Int, Int.natCast_zero, true_and, and_true, Option.some.injEq, Value.int.injEq, f2, f3, f7, f8]
      refine ⟨m2', m3', ?_⟩
      rw [hstep, pushN, if_pos hc]
      exact hO2
    case pos.refine_1.refine_2.refine_1 =>
      rw [← hH2]
      have hn1 : ((out.length : Int) - 1).toNat = out.length - 1 := by omega
      have e2 : H2.rdn (blk w) (ofs w + (out.length - 1) * 5) 5 = some (runV (lastR out)) := (OR.rr hO2).rowN (k := out.length - 1) (by omega)
      have e3 : H2.rd (blk w) (ofs w + (out.length - 1) * 5) = some (.string (strB (lastR out).t)) := by
        have := (OR.rr hO2).row (k := out.length - 1) (c := 0) (by omega) (by decide)
        exact this
      repeat' (first | (exfalso; omega) | refine zA ?_ | refine zB ?_ | refine zC ?_ | refine zD ?_ | refine zE ?_ | refine zF ?_ | refine zG ?_ | refine zH ?_ | refine zI ?_ | refine zJ ?_ | refine zK rfl ?_ | refine zL ?_ | refine zM ?_ | refine zN ?_ | refine zO ?_ | refine zP rfl ?_ | refine zQ ?_ | ((first | refine zR ?_ | refine zS ?_ | refine zT ?_ | skip); intro K k; simp (disch := (first | (simp only [yD2, beq_self_eq_true, Nat.reduceLT, Nat.reduceAdd]; done) | ((fail_if_success (apply Bool.eq_iff_iff.2)); first | omega | (simp only [yD2, beq_self_eq_true, Nat.reduceLT, Nat.reduceAdd] <;> omega)) | fail)) only [↓yS, yT, ↓reduceIte, Nat.reduceEqDiff, Nat.reduceAdd, Nat.reduceMul, reduceCtorEq, Int.reduceToNat, g48, f2, f3, f7, f8, f9, RN, r3', hso.ia, hn1, e2, x5]; refine yC (k _ _ ?_); clear k K) | ((first | refine zU ?_ | refine zV ?_ | refine zW ?_); intro A B C D a b c d; simp only [↓yG, Nat.reduceEqDiff, ↓reduceIte, g48, f2, f3, f7, f8, f9, RN, r3', hso.ia, hn1, e2, x5]; (first | refine zX (a ?_) | refine zY (b ?_) | refine zZ (fun hc => c ?_) (fun hc => d ?_)) <;> clear a b c d A B C D <;> try simp only [yL] at hc) | (refine yA ?_; intro A a; simp only [↓yG, Nat.reduceEqDiff, ↓reduceIte, g48, f2, f3, f7, f8, f9, RN, r3', hso.ia, hn1, e2, x5]; refine yB (a ?_); clear a A) | (refine yD ?_; simp only [gresults, ↓yG, Nat.reduceEqDiff, ↓reduceIte, Option.bind_some, gld_1, gld_n, g48, f2, f3, f7, f8, f9, RN, r3', hso.ia, hn1, e2, x5]; refine ⟨_, rfl, ?_⟩; simp only [gone]))
      intro K' hK'; refine G1_call (by simp only [gtarget, ↓GArg.ev, ↓evs, ↓Tr.get_set, Nat.reduceEqDiff, if_true, if_false, ↓reduceIte, Option.map_some, f2, f3, f7, f8, f9, RN]; rfl) (one_of (alike_ok (lastR out) x _)) fun r4 H4 hq => hK' _ _ ?_
      obtain ⟨rfl, rfl⟩ := hq
      cases hal : alikeF (lastR out) x with
      | true =>
        have hadd := fun e => gb_addB (e := e) (a := (lastR out).t) (b := x.t) (by have := last_le (l := out) (by omega); omega)
        obtain ⟨H5, e5, hO5, hB5⟩ := OR.setT hO2 (k := out.length - 1) (by omega) ((lastR out).t ++ x.t)
        repeat' (first | (exfalso; omega) | refine zA ?_ | refine zB ?_ | refine zC ?_ | refine zD ?_ | refine zE ?_ | refine zF ?_ | refine zG ?_ | refine zH ?_ | refine zI ?_ | refine zJ ?_ | refine zK rfl ?_ | refine zL ?_ | refine zM ?_ | refine zN ?_ | refine zO ?_ | refine zP rfl ?_ | refine zQ ?_ | ((first | refine zR ?_ | refine zS ?_ | refine zT ?_ | skip); intro K k; simp (disch := (first | (simp only [yD2, beq_self_eq_true, Nat.reduceLT, Nat.reduceAdd]; done) | ((fail_if_success (apply Bool.eq_iff_iff.2)); first | omega | (simp only [yD2, beq_self_eq_true, Nat.reduceLT, Nat.reduceAdd] <;> omega)) | fail)) only [↓yS, yT, ↓reduceIte, Nat.reduceEqDiff, Nat.reduceAdd, Nat.reduceMul, reduceCtorEq, Int.reduceToNat, g48, f2, f3, f7, f8, f9, RN, r3', hso.ia, hn1, e2, e3, x5, x0, hadd, e5, Nat.add_zero]; refine yC (k _ _ ?_); clear k K) | ((first | refine zU ?_ | refine zV ?_ | refine zW ?_); intro A B C D a b c d; simp only [↓yG, Nat.reduceEqDiff, ↓reduceIte, g48, f2, f3, f7, f8, f9, RN, r3', hso.ia, hn1, e2, e3, x5, x0, hadd, e5, Nat.add_zero]; (first | refine zX (a ?_) | refine zY (b ?_) | refine zZ (fun hc => c ?_) (fun hc => d ?_)) <;> clear a b c d A B C D <;> try simp only [yL] at hc) | (refine yA ?_; intro A a; simp only [↓yG, Nat.reduceEqDiff, ↓reduceIte, g48, f2, f3, f7, f8, f9, RN, r3', hso.ia, hn1, e2, e3, x5, x0, hadd, e5, Nat.add_zero]; refine yB (a ?_); clear a A) | (refine yD ?_; simp only [gresults, ↓yG, Nat.reduceEqDiff, ↓reduceIte, Option.bind_some, gld_1, gld_n, g48, f2, f3, f7, f8, f9, RN, r3', hso.ia, hn1, e2, e3, x5, x0, hadd, e5, Nat.add_zero]; refine ⟨_, rfl, ?_⟩; simp only [gone]))
        have hn3 : ¬ (H.len + 1) ∈ idOf w := fun ha => by
          have := (hO2.ids ha).2.2
          rw [m3'] at this
          simp at this
        have hn2 : ¬ H.len ∈ idOf w := fun ha => by
          have := (hO2.ids ha).2.2
          rw [m2'] at this
          simp at this
        refine hJ _ _ ⟨l.length - (j + 1), by omega, j + 1, w, rfl, by omega, ?_⟩
        simp only [↓yG, Nat.reduceEqDiff, ↓reduceIte, Int.natCast_add, Int.cast_ofNat_Int, Int.natCast_zero, true_and, and_true, Option.some.injEq, Value.int.injEq, f2, f3, f7, f8]
        refine ⟨by rw [hB5.mine (by omega) hn2]; exact m2', by rw [hB5.mine (by omega) hn3]; exact m3', ?_⟩
        rw [hstep, pushN, if_neg (by assumption), if_pos ⟨by omega, hal⟩]
        exact hO5
      | false =>
        repeat' (first | (exfalso; omega) | refine zA ?_ | refine zB ?_ | refine zC ?_ | refine zD ?_ | refine zE ?_ | refine zF ?_ | refine zG ?_ | refine zH ?_ | refine zI ?_ | refine zJ ?_ | refine zK rfl ?_ | refine zL ?_ | refine zM ?_ | refine zN ?_ | refine zO ?_ | refine zP rfl ?_ | refine zQ ?_ | ((first | refine zR ?_ | refine zS ?_ | refine zT ?_ | skip); intro K k; simp (disch := (first | (simp only [yD2, beq_self_eq_true, Nat.reduceLT, Nat.reduceAdd]; done) | ((fail_if_success (apply Bool.eq_iff_iff.2)); first | omega | (simp only [yD2, beq_self_eq_true, Nat.reduceLT, Nat.reduceAdd] <;> omega)) | fail)) only [↓yS, yT, ↓reduceIte, Nat.reduceEqDiff, Nat.reduceAdd, Nat.reduceMul, reduceCtorEq, Int.reduceToNat, g48, f2, f3, f7, f8, f9, RN, r3', x5]; refine yC (k _ _ ?_); clear k K) | ((first | refine zU ?_ | refine zV ?_ | refine zW ?_); intro A B C D a b c d; simp only [↓yG, Nat.reduceEqDiff, ↓reduceIte, g48, f2, f3, f7, f8, f9, RN, r3', x5]; (first | refine zX (a ?_) | refine zY (b ?_) | refine zZ (fun hc => c ?_) (fun hc => d ?_)) <;> clear a b c d A B C D <;> try simp only [yL] at hc) | (refine yA ?_; intro A a; simp only [↓yG, Nat.reduceEqDiff, ↓reduceIte, g48, f2, f3, f7, f8, f9, RN, r3', x5]; refine yB (a ?_); clear a A) | (refine yD ?_; simp only [gresults, ↓yG, Nat.reduceEqDiff, ↓reduceIte, Option.bind_some, gld_1, gld_n, g48, f2, f3, f7, f8, f9, RN, r3', x5]; refine ⟨_, rfl, ?_⟩; simp only [gone]))
        have hxt : ¬ x.t = [] := by assumption
        have hpp : ¬ (0 < out.length ∧ alikeF (lastR out) x = true) := fun h => by rw [hal] at h; simp at h
        refine Gw_s fun K' hK' => ?_
        simp (disch := (first | (simp only [yD2, beq_self_eq_true, Nat.reduceLT, Nat.reduceAdd]; done) | ((fail_if_success (apply Bool.eq_iff_iff.2)); first | omega | (simp only [yD2, beq_self_eq_true, Nat.reduceLT, Nat.reduceAdd] <;> omega)) | fail)) only [↓yS, yT, ↓reduceIte, Nat.reduceEqDiff, Nat.reduceAdd, Nat.reduceMul, reduceCtorEq, Int.reduceToNat, f2, f3, f7, f8, f9]
        obtain ⟨w', H5, e, hO5, hB5⟩ := OS.app1 hO2 (by decide) (by decide) (news := runC x) rfl (b := 40) (by omega) (by omega)
        refine G1_eq e (hK' _ _ ?_)
        clear hK' K' e
        have hO5' : OR H H5 w' (out ++ [x]) := by
          have e1 : RunsC (out ++ [x]) = RunsC out ++ runC x := by simp [RunsC]
          have e2 : (out ++ [x]).length = out.length + 1 := by simp
          unfold OR
          rw [e1, e2]; exact hO5
        have hn3 : ¬ (H.len + 1) ∈ idOf w := fun ha => by
          have := (hO2.ids ha).2.2
          rw [m3'] at this
          simp at this
        have hn2 : ¬ H.len ∈ idOf w := fun ha => by
          have := (hO2.ids ha).2.2
          rw [m2'] at this
          simp at this
        have m2a : H5.mine H.len = some ([.slice none 0 0], 0) := by rw [hB5.mine (by omega) hn2]; exact m2'
        have m3a : H5.mine (H.len + 1) = some ([w], 0) := by rw [hB5.mine (by omega) hn3]; exact m3'
        have hw5 := hO5.same.wf
        have hst : gst none H5 (.pointer (some ⟨H.len + 1, 0, none⟩)) w' = some (H5.put (H.len + 1) (.cells [w'] 0 true)) := by
          rw [gst_1, m3a, Option.bind_some, gset_ok (by simp) hO5'.flat]; rfl
        have hB6 : But (fun z => z = H.len + 1) H5 (H5.put (H.len + 1) (.cells [w'] 0 true)) := (But.refl (S := fun z => z = H.len + 1) hw5).put rfl (mine_lt hw5 m3a) _
        have hO6 : OR H (H5.put (H.len + 1) (.cells [w'] 0 true)) w' (out ++ [x]) := hO5'.but hB6 (fun z hz e2 => by omega) fun a ha e2 => by
          have := (hO5'.ids ha).2.2
          rw [e2, m3a] at this
          simp at this
        repeat' (first | (exfalso; omega) | refine zA ?_ | refine zB ?_ | refine zC ?_ | refine zD ?_ | refine zE ?_ | refine zF ?_ | refine zG ?_ | refine zH ?_ | refine zI ?_ | refine zJ ?_ | refine zK rfl ?_ | refine zL ?_ | refine zM ?_ | refine zN ?_ | refine zO ?_ | refine zP rfl ?_ | refine zQ ?_ | ((first | refine zR ?_ | refine zS ?_ | refine zT ?_ | skip); intro K k; simp (disch := (first | (simp only [yD2, beq_self_eq_true, Nat.reduceLT, Nat.reduceAdd]; done) | ((fail_if_success (apply Bool.eq_iff_iff.2)); first | omega | (simp only [yD2, beq_self_eq_true, Nat.reduceLT, Nat.reduceAdd] <;> omega)) | fail)) only [↓yS, yT, ↓reduceIte, Nat.reduceEqDiff, Nat.reduceAdd, Nat.reduceMul, reduceCtorEq, Int.reduceToNat, g48, f2, f3, f7, f8, f9, hst]; refine yC (k _ _ ?_); clear k K) | ((first | refine zU ?_ | refine zV ?_ | refine zW ?_); intro A B C D a b c d; simp only [↓yG, Nat.reduceEqDiff, ↓reduceIte, g48, f2, f3, f7, f8, f9, hst]; (first | refine zX (a ?_) | refine zY (b ?_) | refine zZ (fun hc => c ?_) (fun hc => d ?_)) <;> clear a b c d A B C D <;> try simp only [yL] at hc) | (refine yA ?_; intro A a; simp only [↓yG, Nat.reduceEqDiff, ↓reduceIte, g48, f2, f3, f7, f8, f9, hst]; refine yB (a ?_); clear a A) | (refine yD ?_; simp only [gresults, ↓yG, Nat.reduceEqDiff, ↓reduceIte, Option.bind_some, gld_1, gld_n, g48, f2, f3, f7, f8, f9, hst]; refine ⟨_, rfl, ?_⟩; simp only [gone]))
        refine hJ _ _ ⟨l.length - (j + 1), by omega, j + 1, w', rfl, by omega, ?_⟩
        simp only [↓yG, Nat.reduceEqDiff, ↓reduceIte, Int.natCast_add, Int.cast_ofNat_Int, Int.natCast_zero, true_and, and_true, Option.some.injEq, Value.int.injEq, f2, f3, f7, f8]
        refine ⟨by rw [mine_put_ne (by omega)]; exact m2a, mine_put_same (mine_obj m3a).1, ?_⟩
        rw [hstep, pushN, if_neg hxt, if_neg hpp]
        exact hO6
    case pos.refine_1.refine_2.refine_2 =>
        rw [← hH2]
        have hxt : ¬ x.t = [] := by assumption
        have hpp : ¬ (0 < out.length ∧ alikeF (lastR out) x = true) := fun h => by omega
        have hl4 : H1.len + 1 = H2.len := hl2'.symm
        rw [hl4]
        refine Gw_s fun K' hK' => ?_
        simp (disch := (first | (simp only [yD2, beq_self_eq_true, Nat.reduceLT, Nat.reduceAdd]; done) | ((fail_if_success (apply Bool.eq_iff_iff.2)); first | omega | (simp only [yD2, beq_self_eq_true, Nat.reduceLT, Nat.reduceAdd] <;> omega)) | fail)) only [↓yS, yT, ↓reduceIte, Nat.reduceEqDiff, Nat.reduceAdd, Nat.reduceMul, reduceCtorEq, Int.reduceToNat, f2, f3, f7, f8, f9]
        obtain ⟨w', H5, e, hO5, hB5⟩ := OS.app1 hO2 (by decide) (by decide) (news := runC x) rfl (b := 40) (by omega) (by omega)
        refine G1_eq e (hK' _ _ ?_)
        clear hK' K' e
        have hO5' : OR H H5 w' (out ++ [x]) := by
          have e1 : RunsC (out ++ [x]) = RunsC out ++ runC x := by simp [RunsC]
          have e2 : (out ++ [x]).length = out.length + 1 := by simp
          unfold OR
          rw [e1, e2]; exact hO5
        have hn3 : ¬ (H.len + 1) ∈ idOf w := fun ha => by
          have := (hO2.ids ha).2.2
          rw [m3'] at this
          simp at this
        have hn2 : ¬ H.len ∈ idOf w := fun ha => by
          have := (hO2.ids ha).2.2
          rw [m2'] at this
          simp at this
        have m2a : H5.mine H.len = some ([.slice none 0 0], 0) := by rw [hB5.mine (by omega) hn2]; exact m2'
        have m3a : H5.mine (H.len + 1) = some ([w], 0) := by rw [hB5.mine (by omega) hn3]; exact m3'
        have hw5 := hO5.same.wf
        have hst : gst none H5 (.pointer (some ⟨H.len + 1, 0, none⟩)) w' = some (H5.put (H.len + 1) (.cells [w'] 0 true)) := by
          rw [gst_1, m3a, Option.bind_some, gset_ok (by simp) hO5'.flat]; rfl
        have hB6 : But (fun z => z = H.len + 1) H5 (H5.put (H.len + 1) (.cells [w'] 0 true)) := (But.refl (S := fun z => z = H.len + 1) hw5).put rfl (mine_lt hw5 m3a) _
        have hO6 : OR H (H5.put (H.len + 1) (.cells [w'] 0 true)) w' (out ++ [x]) := hO5'.but hB6 (fun z hz e2 => by omega) fun a ha e2 => by
          have := (hO5'.ids ha).2.2
          rw [e2, m3a] at this
          simp at this
        repeat' (first | (exfalso; omega) | refine zA ?_ | refine zB ?_ | refine zC ?_ | refine zD ?_ | refine zE ?_ | refine zF ?_ | refine zG ?_ | refine zH ?_ | refine zI ?_ | refine zJ ?_ | refine zK rfl ?_ | refine zL ?_ | refine zM ?_ | refine zN ?_ | refine zO ?_ | refine zP rfl ?_ | refine zQ ?_ | ((first | refine zR ?_ | refine zS ?_ | refine zT ?_ | skip); intro K k; simp (disch := (first | (simp only [yD2, beq_self_eq_true, Nat.reduceLT, Nat.reduceAdd]; done) | ((fail_if_success (apply Bool.eq_iff_iff.2)); first | omega | (simp only [yD2, beq_self_eq_true, Nat.reduceLT, Nat.reduceAdd] <;> omega)) | fail)) only [↓yS, yT, ↓reduceIte, Nat.reduceEqDiff, Nat.reduceAdd, Nat.reduceMul, reduceCtorEq, Int.reduceToNat, g48, f2, f3, f7, f8, f9, hst]; refine yC (k _ _ ?_); clear k K) | ((first | refine zU ?_ | refine zV ?_ | refine zW ?_); intro A B C D a b c d; simp only [↓yG, Nat.reduceEqDiff, ↓reduceIte, g48, f2, f3, f7, f8, f9, hst]; (first | refine zX (a ?_) | refine zY (b ?_) | refine zZ (fun hc => c ?_) (fun hc => d ?_)) <;> clear a b c d A B C D <;> try simp only [yL] at hc) | (refine yA ?_; intro A a; simp only [↓yG, Nat.reduceEqDiff, ↓reduceIte, g48, f2, f3, f7, f8, f9, hst]; refine yB (a ?_); clear a A) | (refine yD ?_; simp only [gresults, ↓yG, Nat.reduceEqDiff, ↓reduceIte, Option.bind_some, gld_1, gld_n, g48, f2, f3, f7, f8, f9, hst]; refine ⟨_, rfl, ?_⟩; simp only [gone]))
        refine hJ _ _ ⟨l.length - (j + 1), by omega, j + 1, w', rfl, by omega, ?_⟩
        simp only [↓yG, Nat.reduceEqDiff, ↓reduceIte, Int.natCast_add, Int.cast_ofNat_Int, Int.natCast_zero, true_and, and_true, Option.some.injEq, Value.int.injEq, f2, f3, f7, f8]
        refine ⟨by rw [mine_put_ne (by omega)]; exact m2a, mine_put_same (mine_obj m3a).1, ?_⟩
        rw [hstep, pushN, if_neg hxt, if_neg hpp]
        exact hO6
  · obtain rfl : j = l.length := by omega
    rw [List.take_length] at hout
    have r3 : H1.rd (H.len + 1) 0 = some w := mine_rd m3
    have hrw : H1.rdn (H.len + 1) 0 1 = some (rowV w) := by
      simp only [GHeap.rdn, mine_cs m3, Option.bind_some]; rfl
    have hgs : gsetn [.slice none 0 0] 0 1 (rowV w) = some [w] := gsetn_all rfl rfl (by simpa using hO.flat)
    have hst : gst (some 1) H1 (.pointer (some ⟨H.len, 0, none⟩)) (rowV w) = some (H1.put H.len (.cells [w] 0 true)) := by
      rw [gst_n, m2, Option.bind_some, hgs]; rfl
    have hB6 : But (fun z => z = H.len) H1 (H1.put H.len (.cells [w] 0 true)) := (But.refl (S := fun z => z = H.len) hw1).put rfl hl2 _
    have hO6 : OR H (H1.put H.len (.cells [w] 0 true)) w out := hO.but hB6 (fun z hz e2 => by omega) fun a ha e2 => by
      have := (hO.ids ha).2.2
      rw [e2, m2] at this
      simp at this
    have hrr : (H1.put H.len (.cells [w] 0 true)).rdn H.len 0 1 = some (rowV w) := rdn_put_all rfl
    repeat' (first | (exfalso; omega) | refine zA ?_ | refine zB ?_ | refine zC ?_ | refine zD ?_ | refine zE ?_ | refine zF ?_ | refine zG ?_ | refine zH ?_ | refine zI ?_ | refine zJ ?_ | refine zK rfl ?_ | refine zL ?_ | refine zM ?_ | refine zN ?_ | refine zO ?_ | refine zP rfl ?_ | refine zQ ?_ | ((first | refine zR ?_ | refine zS ?_ | refine zT ?_ | skip); intro K k; simp (disch := (first | (simp only [yD2, beq_self_eq_true, Nat.reduceLT, Nat.reduceAdd]; done) | ((fail_if_success (apply Bool.eq_iff_iff.2)); first | omega | (simp only [yD2, beq_self_eq_true, Nat.reduceLT, Nat.reduceAdd] <;> omega)) | fail)) only [↓yS, yT, ↓reduceIte, Nat.reduceEqDiff, Nat.reduceAdd, Nat.reduceMul, reduceCtorEq, Int.reduceToNat, g48, f2, f3, f7, f8, f9, hrw, hst, hrr]; refine yC (k _ _ ?_); clear k K) | ((first | refine zU ?_ | refine zV ?_ | refine zW ?_); intro A B C D a b c d; simp only [↓yG, Nat.reduceEqDiff, ↓reduceIte, g48, f2, f3, f7, f8, f9, hrw, hst, hrr]; (first | refine zX (a ?_) | refine zY (b ?_) | refine zZ (fun hc => c ?_) (fun hc => d ?_)) <;> clear a b c d A B C D <;> try simp only [yL] at hc) | (refine yA ?_; intro A a; simp only [↓yG, Nat.reduceEqDiff, ↓reduceIte, g48, f2, f3, f7, f8, f9, hrw, hst, hrr]; refine yB (a ?_); clear a A) | (refine yD ?_; simp only [gresults, ↓yG, Nat.reduceEqDiff, ↓reduceIte, Option.bind_some, gld_1, gld_n, g48, f2, f3, f7, f8, f9, hrw, hst, hrr]; refine ⟨_, rfl, ?_⟩; simp only [gone]))
    exact hPost _ _ ⟨w, rfl, hout ▸ hO6⟩
end Go.Gh
