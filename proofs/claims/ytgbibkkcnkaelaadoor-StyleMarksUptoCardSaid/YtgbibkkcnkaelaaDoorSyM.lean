/-
  Plain: the characters of rows that are cut, joined, replaced and marked.
-/
import Derived.Test.YtgbibkkcnkaelaaDoorSyP3
namespace Go.Gh
set_option linter.unusedSimpArgs false
set_option linter.unusedVariables false
set_option maxRecDepth 4000

/-- all texts are valid -/
def OkV (l : List SR) : Prop := ∀ x ∈ l, vR x = true
theorem okV_all {l : List SR} : l.all vR = true ↔ OkV l := List.all_eq_true
theorem chs_of {x : SR} (h : vR x = true) : x.t = (rns (strB x.t)).flatMap encL ∧ ∀ c ∈ rns (strB x.t), c ∈ REP := by
  unfold vR at h
  exact ⟨(enc_rns h).symm, vldB_mem h⟩
theorem rns_of {t : List UInt8} {l : List Nat} (h : ∀ c ∈ l, c ∈ REP) (e : t = l.flatMap encL) : rns (strB t) = l ∧ vldB (strB t) = true := by
  have h1 : rns (strB t) = l := by rw [e]; exact rns_enc h
  exact ⟨h1, vldB_of (by rw [h1]; exact h)⟩
theorem rns_app {x z : SR} (hx : vR x = true) (hz : vR z = true) (s : Sy) (y : List UInt8) : rns (strB (z.t ++ x.t)) = rns (strB z.t) ++ rns (strB x.t) ∧ vR ⟨z.t ++ x.t, s, y⟩ = true := by
  obtain ⟨e1, h1⟩ := chs_of hx
  obtain ⟨e2, h2⟩ := chs_of hz
  have h := rns_of (t := z.t ++ x.t) (l := rns (strB z.t) ++ rns (strB x.t)) (fun c hc => (List.mem_append.1 hc).elim (h2 c) (h1 c)) (by rw [List.flatMap_append, ← e1, ← e2])
  exact ⟨h.1, h.2⟩
theorem charsR_app (a b : List SR) : charsR (a ++ b) = charsR a ++ charsR b := by simp [charsR]
theorem charsR_one (x : SR) : charsR [x] = runCh x := by simp [charsR]
theorem pushN_chars {out : List SR} {x : SR} (ho : OkV out) (hx : vR x = true) : charsR (pushN out x) = charsR out ++ runCh x ∧ OkV (pushN out x) := by
  unfold pushN
  split
  · rename_i h
    refine ⟨?_, ho⟩
    have : rns (strB x.t) = [] := by
      have := cntR_le x
      rw [h] at this
      exact List.eq_nil_of_length_eq_zero (by unfold cntR at this; simpa using this)
    simp [runCh, this]
  · split
    · rename_i h
      obtain ⟨p, e, hp⟩ := last_split h.1
      have hz : vR (lastR out) = true := ho _ (by
        have : lastR out ∈ p ++ [lastR out] := by simp
        rwa [← e] at this)
      have hal := h.2
      generalize lastR out = z at *
      have hs : out.set (out.length - 1) {z with t := z.t ++ x.t} = p ++ [{z with t := z.t ++ x.t}] := by
        rw [← hp]
        conv => lhs; rw [e]
        simp
      obtain ⟨r1, r2⟩ := rns_app hx hz z.s z.y
      have hss : z.s = x.s := by
        unfold alikeF at hal
        simp at hal
        exact hal.1.1
      rw [hs]
      refine ⟨?_, fun y hy => ?_⟩
      · conv => rhs; rw [e]
        rw [charsR_app, charsR_app, charsR_one, charsR_one, List.append_assoc]
        congr 1
        simp only [runCh, r1, List.map_append, hss]
      · rcases List.mem_append.1 hy with hy | hy
        · exact ho y (by rw [e]; simp [hy])
        · rw [List.mem_singleton.1 hy]; exact r2
    · refine ⟨by rw [charsR_app, charsR_one], fun y hy => ?_⟩
      rcases List.mem_append.1 hy with hy | hy
      · exact ho y hy
      · rw [List.mem_singleton.1 hy]; exact hx
theorem foldN_chars : ∀ {l out : List SR}, OkV out → OkV l → charsR (l.foldl pushN out) = charsR out ++ charsR l ∧ OkV (l.foldl pushN out)
  | [], out, ho, _ => by simp [charsR]; exact ho
  | x :: l, out, ho, hl => by
    obtain ⟨h1, h2⟩ := pushN_chars ho (hl x (by simp))
    obtain ⟨h3, h4⟩ := foldN_chars (l := l) h2 (fun y hy => hl y (List.mem_cons_of_mem _ hy))
    rw [List.foldl_cons]
    refine ⟨?_, h4⟩
    rw [h3, h1, List.append_assoc]
    simp [charsR]
theorem normF_chars {l : List SR} (h : OkV l) : charsR (normF l) = charsR l ∧ OkV (normF l) := by
  have := foldN_chars (l := l) (out := []) (fun x hx => by simp at hx) h
  simpa [normF, charsR] using this
theorem lenF_ok {l : List SR} (h : OkV l) : lenF l = ((charsR l).length : Nat) := by
  rw [lenF, if_pos (okV_all.2 h), charsR_len]
theorem lenF_okV {l : List SR} (h : 0 ≤ lenF l) : OkV l := okV_all.1 (lenF_all h).1
theorem atF_ok {l : List SR} (h : OkV l) {i : Int} (h0 : 0 ≤ i) : atF l i = (charsR l)[i.toNat]? := by
  unfold atF
  rw [lenF_ok h]
  split
  · rfl
  · rename_i hh
    rw [List.getElem?_eq_none (by omega)]
theorem plainF_chars {l : List SR} (h : OkV l) : plainF l = (charsR l).flatMap fun p => encL p.1 := by
  induction l with
  | nil => rfl
  | cons x l ih =>
    have h1 := (chs_of (h x (by simp))).1
    have h2 := ih fun y hy => h y (by simp [hy])
    have e1 : plainF (x :: l) = x.t ++ plainF l := by simp [plainF]
    have e2 : charsR (x :: l) = runCh x ++ charsR l := by simp [charsR]
    rw [e1, e2, List.flatMap_append, ← h2]
    congr 1
    conv => lhs; rw [h1]
    simp [runCh, List.flatMap_map]
/-! ### parts -/
theorem part_chars {x : SR} (hx : vR x = true) (I J a : Nat) : runCh (partA I J a x) = ((runCh x).take (J - a)).drop (I - a) ∧ vR (partA I J a x) = true := by
  obtain ⟨e1, h1⟩ := chs_of hx
  have hv : vldB (strB x.t) = true := hx
  have hn : (runCh x).length = cntR x := runCh_len x
  generalize hF : limI (cntR x) ((I : Int) - (a : Int)) = F
  generalize hT : limJ (cntR x) ((I : Int) - (a : Int)) ((J : Int) - (a : Int)) = T
  have hsb : sliceB (strB x.t) F T = (cutL (rns (strB x.t)) F T).flatMap encL := by unfold sliceB; rw [charL_yes hv]
  have hcm := cutL_mem h1 F T
  obtain ⟨r1, r2⟩ := rns_of hcm hsb
  have hpt : (partA I J a x).t = sliceB (strB x.t) F T := by unfold partA; rw [hF, hT]
  have hps : (partA I J a x).s = x.s := rfl
  refine ⟨?_, ?_⟩
  · unfold runCh
    rw [hpt, hps, r1]
    have hc : cutL (rns (strB x.t)) F T = ((rns (strB x.t)).take (J - a)).drop (I - a) := by
      unfold cutL
      have hl : (rns (strB x.t)).length = cntR x := rfl
      rw [hl]
      unfold limI at hF
      unfold limJ limI at hT
      have e2 : (min (max F 0) ((cntR x : Nat) : Int)).toNat = min (I - a) (cntR x) := by omega
      by_cases hc1 : I - a ≤ cntR x
      · rw [List.drop_take]
        have e3 : (min (max F 0) ((cntR x : Nat) : Int)).toNat = I - a := by omega
        rw [e3]
        by_cases hc2 : J - a ≤ cntR x
        · have e4 : (min (max T (min (max F 0) ((cntR x : Nat) : Int))) ((cntR x : Nat) : Int)).toNat - (I - a) = J - a - (I - a) := by omega
          rw [e4]
        · have e4 : (min (max T (min (max F 0) ((cntR x : Nat) : Int))) ((cntR x : Nat) : Int)).toNat - (I - a) = cntR x - (I - a) := by omega
          rw [e4, List.take_of_length_le (by rw [List.length_drop]; omega), List.take_of_length_le (by rw [List.length_drop]; omega)]
      · have e3 : (min (max F 0) ((cntR x : Nat) : Int)).toNat = cntR x := by omega
        rw [e3, List.drop_of_length_le (by omega), List.drop_of_length_le (by rw [List.length_take]; omega)]
        simp
    rw [hc, List.map_drop, List.map_take]
  · unfold vR; rw [hpt]; exact r2
theorem walk_chars : ∀ {l : List SR} (_ : OkV l) (I J a : Nat), charsR (walkC (partsA I J) a l) = ((charsR l).take (J - a)).drop (I - a) ∧ OkV (walkC (partsA I J) a l)
  | [], _, I, J, a => by simp [walkC, charsR]; intro x hx; simp at hx
  | x :: l, h, I, J, a => by
    obtain ⟨h1, h2⟩ := part_chars (h x (by simp)) I J a
    obtain ⟨h3, h4⟩ := walk_chars (l := l) (fun y hy => h y (by simp [hy])) I J (a + cntR x)
    have e : walkC (partsA I J) a (x :: l) = partA I J a x :: walkC (partsA I J) (a + cntR x) l := rfl
    have e2 : charsR (x :: l) = runCh x ++ charsR l := by simp [charsR]
    have e3 : ∀ y m, charsR (y :: m) = runCh y ++ charsR m := fun y m => by simp [charsR]
    rw [e]
    refine ⟨?_, fun y hy => ?_⟩
    · rw [e3, h1, h3, e2, List.take_append, List.drop_append, runCh_len, List.length_take, runCh_len]
      congr 1
      rw [show J - (a + cntR x) = J - a - cntR x from by omega]
      by_cases hc : cntR x ≤ J - a
      · rw [show I - a - min (J - a) (cntR x) = I - (a + cntR x) from by omega]
      · rw [show J - a - cntR x = 0 from by omega]; simp
    · rcases List.mem_cons.1 hy with rfl | hy
      · exact h2
      · exact h4 y hy
theorem sliceF_chars {l : List SR} (h : OkV l) {i j : Int} {I J : Nat} (hI : limI (lenF l) i = I) (hJ : limJ (lenF l) i j = J) : charsR (sliceF l i j) = ((charsR l).take J).drop I ∧ OkV (sliceF l i j) := by
  have hl := lenF_ok h
  obtain ⟨h1, h2⟩ := walk_chars h I J 0
  obtain ⟨h3, h4⟩ := normF_chars h2
  rw [sliceF, if_neg (by omega), hI, hJ]
  exact ⟨by rw [h3, h1]; rfl, h4⟩
theorem okV_app {a b : List SR} (h : OkV a) (k : OkV b) : OkV (a ++ b) := fun x hx => (List.mem_append.1 hx).elim (h x) (k x)
/-- a row cut and put together again -/
theorem cuts_plain {l : List SR} (h : OkV l) (i : Int) : charsR (normF (sliceF l 0 i ++ sliceF l i (lenF l))) = charsR l ∧ OkV (normF (sliceF l 0 i ++ sliceF l i (lenF l))) := by
  have hl := lenF_ok h
  obtain ⟨I, hI⟩ : ∃ I : Nat, limI (lenF l) i = I := ⟨(limI (lenF l) i).toNat, by unfold limI; omega⟩
  have hI2 := hI
  unfold limI at hI2
  obtain ⟨a1, a2⟩ := sliceF_chars h (i := 0) (j := i) (I := 0) (J := I) (by unfold limI; omega) (by unfold limJ limI; omega)
  obtain ⟨b1, b2⟩ := sliceF_chars h (i := i) (j := lenF l) (I := I) (J := (charsR l).length) hI (by unfold limJ limI; omega)
  obtain ⟨c1, c2⟩ := normF_chars (okV_app a2 b2)
  refine ⟨?_, c2⟩
  rw [c1, charsR_app, a1, b1, List.take_length, List.drop_zero, List.take_append_drop]
end Go.Gh
