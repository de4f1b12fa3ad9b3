/-
  style, walked: neighbours that are alike.
-/
import Derived.Test.YtjjcgaompnjbdaaDoorSyA
namespace Go.Gh
set_option linter.unusedSimpArgs false
set_option linter.unusedVariables false
set_option maxHeartbeats 4000000
open Go.RowKit
set_option maxRecDepth 4000

theorem runC_0 (x : SR) : (runC x)[0]? = some (.string (strB x.t)) := rfl
theorem runC_1 (x : SR) : (runC x)[1]? = some (.int .u8 x.s.c) := rfl
theorem runC_2 (x : SR) : (runC x)[2]? = some (.bool x.s.i) := rfl
theorem runC_3 (x : SR) : (runC x)[3]? = some (.bool x.s.u) := rfl
theorem runC_4 (x : SR) : (runC x)[4]? = some (.string (strB x.y)) := rfl
theorem syC_0 (x : Sy) : (syC x)[0]? = some (.int .u8 x.c) := rfl
theorem syC_1 (x : Sy) : (syC x)[1]? = some (.bool x.i) := rfl
theorem syC_2 (x : Sy) : (syC x)[2]? = some (.bool x.u) := rfl
theorem runC_flat (x : SR) : (runC x).all flatV = true := by simp [runC, flatV]
theorem syC_flat (x : Sy) : (syC x).all flatV = true := by simp [syC, flatV]
theorem run_cells (x : SR) : (runV x).cells.toList = runC x := rfl
theorem sy_cells (x : Sy) : (syV x).cells.toList = syC x := rfl
theorem run_cflat (x : SR) : (runV x).cells.all flatV = true := by
  rw [← Array.all_toList]; exact runC_flat x
theorem sy_cflat (x : Sy) : (syV x).cells.all flatV = true := by
  rw [← Array.all_toList]; exact syC_flat x
theorem gsetn_run {cs : List Value} {x : SR} (h : cs.length = 5) : gsetn cs 0 5 (runV x) = some (runC x) := gsetn_all h rfl (by simp [flatV])
theorem gsetn_sy {cs : List Value} {x : Sy} (h : cs.length = 3) : gsetn cs 0 3 (syV x) = some (syC x) := gsetn_all h rfl (by simp [flatV])
theorem fill_run {x : SR} : fillL (zeros [.string ⟨#[]⟩, .int .u8 0, .bool false, .bool false, .string ⟨#[]⟩] 1) [(0, 5, runV x)] = some (runC x) := by
  simp [fillL, run_cells, runC_flat, zeros, runC_len]
theorem rdn_run {H : GHeap} {j : Nat} {x : SR} {u : Nat} {b : Bool} (h : H.len = j) : (H.add (some (.cells (runC x) u b))).rdn j 0 5 = some (runV x) := rdn_add_all h rfl
theorem rdn_run3 {H : GHeap} {j : Nat} {x : SR} {u : Nat} {b : Bool} (h : H.len = j) : (H.add (some (.cells (runC x) u b))).rdn j 1 3 = some (syV x.s) := by
  simp only [GHeap.rdn, cs_add_eq h]; rfl
theorem rdn_runp {H : GHeap} {j : Nat} {x : SR} {u : Nat} {b : Bool} : (H.put j (.cells (runC x) u b)).rdn j 0 5 = some (runV x) := rdn_put_all rfl
theorem rdn_run3p {H : GHeap} {j : Nat} {x : SR} {u : Nat} {b : Bool} : (H.put j (.cells (runC x) u b)).rdn j 1 3 = some (syV x.s) := by
  simp only [GHeap.rdn, cs_put_same]; rfl
theorem rdn_sy {H : GHeap} {j : Nat} {x : Sy} {u : Nat} {b : Bool} (h : H.len = j) : (H.add (some (.cells (syC x) u b))).rdn j 0 3 = some (syV x) := rdn_add_all h rfl
theorem rdn_syp {H : GHeap} {j : Nat} {x : Sy} {u : Nat} {b : Bool} : (H.put j (.cells (syC x) u b)).rdn j 0 3 = some (syV x) := rdn_put_all rfl
theorem gb_eqR' {a b : SR} : gbin .eql (some (.parts [(0, none, .str), (1, some 3, .parts [(0, none, .int), (1, none, .bool), (2, none, .bool)]), (4, none, .str)])) (runV a) (runV b) = some (.bool (decide (a = b))) := gb_eqR
theorem gb_neR' {a b : SR} : gbin .neq (some (.parts [(0, none, .str), (1, some 3, .parts [(0, none, .int), (1, none, .bool), (2, none, .bool)]), (4, none, .str)])) (runV a) (runV b) = some (.bool (decide (¬ a = b))) := gb_neR
theorem gb_eqS' {a b : Sy} : gbin .eql (some (.parts [(0, none, .int), (1, none, .bool), (2, none, .bool)])) (syV a) (syV b) = some (.bool (decide (a = b))) := gb_eqS
theorem gb_neS' {a b : Sy} : gbin .neq (some (.parts [(0, none, .int), (1, none, .bool), (2, none, .bool)])) (syV a) (syV b) = some (.bool (decide (¬ a = b))) := gb_neS
theorem gb_eqE {e : Option EqK} {a : List UInt8} : gbin .eql e (.string (strB a)) (.string ⟨#[]⟩) = some (.bool (decide (a = []))) := gb_eqlB (b := [])
theorem gb_neE {e : Option EqK} {a : List UInt8} : gbin .neq e (.string (strB a)) (.string ⟨#[]⟩) = some (.bool (decide (¬ a = []))) := gb_neqB (b := [])
theorem RN : type_of% (And.intro (And.intro (And.intro (And.intro @runC_0 @runC_1) (And.intro @runC_2 @runC_3)) (And.intro (And.intro @runC_4 @syC_0) (And.intro @syC_1 @syC_2))) (And.intro (And.intro (And.intro @run_cells @sy_cells) (And.intro @run_cflat @sy_cflat)) (And.intro (And.intro (And.intro @gsetn_run @gsetn_sy) (And.intro @fill_run @rdn_run)) (And.intro (And.intro (And.intro @rdn_run3 @rdn_runp) (And.intro @rdn_run3p @rdn_sy)) (And.intro (And.intro (And.intro @rdn_syp @gb_eqR') (And.intro @gb_neR' @gb_eqS')) (And.intro @gb_neS' (And.intro @gb_eqE @gb_neE))))))) := ⟨⟨⟨⟨@runC_0, @runC_1⟩, ⟨@runC_2, @runC_3⟩⟩, ⟨⟨@runC_4, @syC_0⟩, ⟨@syC_1, @syC_2⟩⟩⟩, ⟨⟨⟨@run_cells, @sy_cells⟩, ⟨@run_cflat, @sy_cflat⟩⟩, ⟨⟨⟨@gsetn_run, @gsetn_sy⟩, ⟨@fill_run, @rdn_run⟩⟩, ⟨⟨⟨@rdn_run3, @rdn_runp⟩, ⟨@rdn_run3p, @rdn_sy⟩⟩, ⟨⟨⟨@rdn_syp, @gb_eqR'⟩, ⟨@gb_neR', @gb_eqS'⟩⟩, ⟨@gb_neS', ⟨@gb_eqE, @gb_neE⟩⟩⟩⟩⟩⟩⟩
theorem lit_run (x : SR) : litOk (runV x) = true := by simp [runV, litOk, litFlat]
theorem lit_sy (x : Sy) : litOk (syV x) = true := by simp [syV, litOk, litFlat]
def alikeF (a b : SR) : Bool := decide (a.s = b.s) && decide (a.y = []) && decide (b.y = [])
theorem alike_ok (a b : SR) (H : GHeap) : gev G 61 [runV a, runV b] H = some (.bool (alikeF a b), H) := by
  refine gev_GWP (f := 61) rfl (by simp [lit_run]) rfl (fun Post hPost => ?_) H
  have hw := root_wf
  have hlim := hw.1
  simp only [frameOf, Nat.reduceAdd]
  repeat' (first | refine zn ?_ | refine zK rfl ?_ | refine zP rfl ?_ | ((first | refine zm ?_ | skip); intro _; intros; simp (disch := first | exact zd | fail) only [↓yS, yT, gresults, gone, ↓reduceIte, Nat.reduceEqDiff, Nat.reduceAdd, Nat.reduceMul, reduceCtorEq, Int.reduceToNat, g61, RN]; first | (rename_i K k; (first | refine yC (k _ _ ?_) | refine zg (k _ ?_)); clear k K) | (rename_i A B C D a b c d; (first | refine zx (a ?_) | refine zy (b ?_) | refine zz (fun hc => c ?_) (fun hc => d ?_) | refine zv (b ?_) | refine zw (a ?_)) <;> clear a b c d A B C D <;> try simp only [yL] at hc)) | refine zA ?_ | refine zB ?_ | refine zF ?_)
  case refine_1.refine_1 =>
    have : alikeF a b = decide (b.y = []) := by simp [alikeF, *]
    rw [this] at hPost
    exact hPost _
  all_goals
    have : alikeF a b = false := by simp [alikeF, *]
    rw [this] at hPost
    exact hPost _
/-! ### the normal form -/
def lastR (l : List SR) : SR := l[l.length - 1]!
def pushN (out : List SR) (x : SR) : List SR :=
  if x.t = [] then out else if 0 < out.length ∧ alikeF (lastR out) x = true then out.set (out.length - 1) {lastR out with t := (lastR out).t ++ x.t} else out ++ [x]
def normF (l : List SR) : List SR := l.foldl pushN []
def tot (l : List SR) : Nat := (l.map fun x => x.t.length).sum
theorem tot_nil : tot [] = 0 := rfl
theorem tot_cons (x : SR) (l : List SR) : tot (x :: l) = x.t.length + tot l := by simp [tot]
theorem tot_append (a b : List SR) : tot (a ++ b) = tot a + tot b := by simp [tot]
theorem tot_take (l : List SR) {j : Nat} (h : j < l.length) : tot (l.take (j + 1)) = tot (l.take j) + l[j]!.t.length := by
  rw [List.take_succ_eq_append_getElem h, tot_append, ← getElem!_pos l j h]
  simp [tot]
theorem tot_le (l : List SR) (j : Nat) : tot (l.take j) ≤ tot l := by
  have h : tot l = tot (l.take j) + tot (l.drop j) := by rw [← tot_append, List.take_append_drop]
  omega
theorem last_split {l : List SR} (h : 0 < l.length) : ∃ p, l = p ++ [lastR l] ∧ p.length = l.length - 1 := by
  refine ⟨l.take (l.length - 1), ?_, by simp⟩
  have := List.take_succ_eq_append_getElem (l := l) (i := l.length - 1) (by omega)
  rw [show l.length - 1 + 1 = l.length from by omega, List.take_length, ← getElem!_pos l _ (by omega)] at this
  exact this
theorem pushN_tot (out : List SR) (x : SR) : tot (pushN out x) = tot out + x.t.length ∧ (pushN out x).length ≤ out.length + 1 := by
  unfold pushN
  split
  · rename_i h; rw [h]; simp
  · split
    · rename_i h
      obtain ⟨p, e, hp⟩ := last_split h.1
      refine ⟨?_, by simp⟩
      generalize lastR out = z at *
      have : out.set (out.length - 1) {z with t := z.t ++ x.t} = p ++ [{z with t := z.t ++ x.t}] := by
        rw [← hp]
        conv => lhs; rw [e]
        simp
      rw [this, e, tot_append, tot_append]
      simp [tot]; omega
    · rw [tot_append]; simp [tot]
theorem foldN_tot : ∀ (l : List SR) (out : List SR), tot (l.foldl pushN out) = tot out + tot l ∧ (l.foldl pushN out).length ≤ out.length + l.length
  | [], out => by simp [tot]
  | x :: l, out => by
    have h1 := pushN_tot out x
    have h2 := foldN_tot l (pushN out x)
    rw [List.foldl_cons, tot_cons, List.length_cons]
    omega
theorem normF_tot (l : List SR) : tot (normF l) = tot l ∧ (normF l).length ≤ l.length := by
  have := foldN_tot l []
  simp only [tot_nil, List.length_nil, Nat.zero_add] at this
  exact this
theorem normF_take {l : List SR} {j : Nat} (h : j < l.length) : normF (l.take (j + 1)) = pushN (normF (l.take j)) l[j]! := by
  rw [normF, List.take_succ_eq_append_getElem h, List.foldl_append, ← getElem!_pos l j h]; rfl
theorem last_le {l : List SR} (h : 0 < l.length) : (lastR l).t.length ≤ tot l := by
  obtain ⟨p, e, _⟩ := last_split h
  generalize lastR l = z at *
  rw [e, tot_append]
  simp [tot]
/-- a text of one's own run, set -/
theorem OR.setT {H0 H : GHeap} {w : Value} {out : List SR} (h : OR H0 H w out) {k : Nat} (hk : k < out.length) (t : List UInt8) :
    ∃ H', gst none H (.pointer (some ⟨blk w, ofs w + k * 5, none⟩)) (.string (strB t)) = some H' ∧ OR H0 H' w (out.set k {out[k]! with t := t}) ∧ But (fun z => z ∈ idOf w) H H' := by
  obtain ⟨g, gc, e, hg, hm⟩ : ∃ g gc, w = .slice (some ⟨g, 0, none⟩) out.length gc ∧ (gc = 0 ∨ gc = out.length + 1) ∧ H.mine g = some (RunsC out, 5) := by
    rcases h.own.at_ with ⟨_, e⟩ | h
    · omega
    · exact h
  have hblk : blk w = g := by rw [e]; rfl
  have hofs : ofs w = 0 := by rw [e]; rfl
  obtain ⟨h1, h2⟩ := h.setc e (ys := (RunsC out).set (k * 5) (.string (strB t))) (by simp)
  rw [RunsC_set _ _ _ hk] at h1 h2
  refine ⟨_, ?_, ?_, h2.mono fun z hz => by rw [hz, e]; simp [idOf]⟩
  · rw [hblk, hofs, Nat.zero_add, gst_1, hm, Option.bind_some, gset_ok (by rw [RunsC_len]; omega) flatV_str, Option.bind_some, RunsC_set _ _ _ hk]
  · have : (out.set k {out[k]! with t := t}).length = out.length := by simp
    unfold OR
    rw [this]; exact h1
theorem gb_addB {e : Option EqK} {a b : List UInt8} (h : a.length + b.length ≤ 9223372036854775807) : gbin .add e (.string (strB a)) (.string (strB b)) = some (.string (strB (a ++ b))) := by
  have := gb_addS (k := e) (a := a) (e := strB b) (by simpa [toL, strB] using h)
  rw [this]; simp [toL, strB]
end Go.Gh
