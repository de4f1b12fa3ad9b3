/-
  The law StyleKeeps, walked.
-/
import Derived.Test.YtgbibkkcnkaelaaDoorSyK3
namespace Go.Gh
set_option linter.unusedSimpArgs false
set_option linter.unusedVariables false
open Go.RowKit
set_option maxRecDepth 4000

theorem RunsC_set : ∀ (l : List SR) (k : Nat) (t : List UInt8), k < l.length → (RunsC l).set (k * 5) (.string (strB t)) = RunsC (l.set k {l[k]! with t := t})
  | [], k, t, h => by simp at h
  | x :: l, 0, t, _ => by simp [RunsC, runC]
  | x :: l, k + 1, t, h => by
    have ih := RunsC_set l k t (by simpa using h)
    have e : (k + 1) * 5 = (runC x).length + k * 5 := by rw [runC_len]; omega
    have e2 : RunsC (x :: l) = runC x ++ RunsC l := by simp [RunsC]
    rw [e2, e, List.set_append, if_neg (by omega), Nat.add_sub_cancel_left, ih]
    simp [RunsC]
/-- lengths of a table's rows -/
def lensT (L : List VR') : List (Value × Nat) := L.map fun x => (x.1, x.2.length)
theorem TO.put {H0 H : GHeap} {v : Value} {L : List VR'} (h : TO H0 H v L) {i k : Nat} (hi : i < L.length) (hk : k < L[i]!.2.length) (t : List UInt8) :
    ∃ H' L', gst none H (.pointer (some ⟨blk L[i]!.1, ofs L[i]!.1 + k * 5, none⟩)) (.string (strB t)) = some H' ∧ TO H0 H' v L' ∧ lensT L' = lensT L := by
  have hx : L[i]! ∈ L := by rw [getElem!_pos L i hi]; exact List.getElem_mem _
  have hO := h.rows _ hx
  obtain ⟨g, gc, e, hg, hm⟩ : ∃ g gc, L[i]!.1 = .slice (some ⟨g, 0, none⟩) L[i]!.2.length gc ∧ (gc = 0 ∨ gc = L[i]!.2.length + 1) ∧ H.mine g = some (RunsC L[i]!.2, 5) := by
    rcases hO.own.at_ with ⟨_, e⟩ | h
    · omega
    · exact h
  have hblk : blk L[i]!.1 = g := by rw [e]; rfl
  have hofs : ofs L[i]!.1 = 0 := by rw [e]; rfl
  generalize hy : L[i]! = y at *
  have hyl := RunsC_len y.2
  have hlt := mine_lt hO.same.wf hm
  have hgH : H0.len ≤ g := (hO.ids (a := g) (by rw [e]; simp [idOf])).1
  generalize hns : y.2.set k {y.2[k]! with t := t} = ns
  have hnl : ns.length = y.2.length := by rw [← hns]; simp
  have hcs : (RunsC y.2).set (k * 5) (.string (strB t)) = RunsC ns := by rw [RunsC_set _ _ _ hk, hns]
  have hput : gst none H (.pointer (some ⟨g, k * 5, none⟩)) (.string (strB t)) = some (H.put g (.cells (RunsC ns) 5 true)) := by
    rw [gst_1, hm, Option.bind_some, gset_ok (by rw [RunsC_len]; omega) flatV_str, Option.bind_some, ← hcs]
  have hB : But (fun z => z = g) H (H.put g (.cells (RunsC ns) 5 true)) := (But.refl (S := fun z => z = g) hO.same.wf).put rfl hlt _
  have hlen : ∀ z ∈ L, g ∈ idOf z.1 → z.2.length = y.2.length := fun z hz hgz => by
    have h1 := (h.rows z hz).ids hgz
    rw [hm] at h1
    have h2 : RunsC y.2 = RunsC z.2 := by simpa using h1.2.2
    have := congrArg List.length h2
    rw [RunsC_len, RunsC_len] at this; omega
  have h1 : (L.map fun z => if g ∈ idOf z.1 then (z.1, ns) else z).map (fun x : VR' => x.1) = L.map (·.1) := by
    rw [List.map_map]
    refine List.map_congr_left fun z _ => ?_
    simp only [Function.comp]
    split <;> rfl
  rw [hblk, hofs, Nat.zero_add]
  refine ⟨_, L.map fun z => if g ∈ idOf z.1 then (z.1, ns) else z, hput, ⟨?_, fun z hz => ?_⟩, ?_⟩
  · rw [h1, List.length_map]
    exact h.own.but hB (fun z hz e2 => by omega) fun a ha e2 => by
      refine h.own.unit_ne hO (by decide) a ha ?_
      rw [e2, e]; simp [idOf]
  · obtain ⟨z0, hz0, rfl⟩ := List.mem_map.1 hz
    split
    · rename_i hgz
      have hz1 := h.rows z0 hz0
      rcases hz1.own.at_ with ⟨e2, _⟩ | ⟨g2, gc2, e2, hg2, hm2⟩
      · rw [e2] at hgz; simp [idOf] at hgz
      · have hgg : g = g2 := by rw [e2] at hgz; simpa [idOf] using hgz
        subst hgg
        have hll := hlen z0 hz0 hgz
        refine ⟨hz1.same.put hgH hlt _, ⟨RunsC_len ns, .inr ⟨g, gc2, by rw [e2, hnl, hll], by (show gc2 = 0 ∨ gc2 = ns.length + 1); omega, mine_put_same (mine_obj hm).1⟩⟩, hz1.young⟩
    · rename_i hgz
      exact (h.rows z0 hz0).but hB (fun z hz e2 => by omega) fun a ha e2 => hgz (e2 ▸ ha)
  · unfold lensT
    rw [List.map_map]
    refine List.map_congr_left fun z hz => ?_
    simp only [Function.comp]
    split
    · rename_i hgz
      rw [hnl, hlen z hz hgz]
    · rfl
theorem lensT_at {L L' : List VR'} (h : lensT L' = lensT L) {i : Nat} : L'.length = L.length ∧ (i < L.length → L'[i]!.1 = L[i]!.1 ∧ L'[i]!.2.length = L[i]!.2.length) := by
  have h0 := congrArg List.length h
  simp only [lensT, List.length_map] at h0
  refine ⟨h0, fun hi => ?_⟩
  have := congrArg (fun l => l[i]?) h
  simp only [lensT, List.getElem?_map] at this
  rw [gget (by omega), gget hi] at this
  simpa using this
def chgB : List UInt8 := [67, 72, 65, 78, 71, 69, 68]
theorem keeps_ok {H : GHeap} (hw : H.wf) {a : Value} {A : List VR'} (ha : TR H a A) (hla : A.length * 24 ≤ 140737488351232) (hA : ∀ x ∈ A, x.2.length * 40 ≤ 140737488351232) :
    ∃ r H', gev G 8 [a] H = some (r, H') ∧ r = .bool true := by
  refine gev_GW (f := 8) rfl fun Post hPost => ?_
  have hA' : Shorts A := fun x hx => by have := hA x hx; omega
  have hsh : ∀ L : List VR', L.map (·.2) = A.map (·.2) → Shorts L ∧ L.length = A.length := fun L e => by
    have h0 := congrArg List.length e
    simp only [List.length_map] at h0
    refine ⟨fun x hx => ?_, h0⟩
    have : x.2 ∈ A.map (·.2) := by rw [← e]; exact List.mem_map.2 ⟨x, hx, rfl⟩
    obtain ⟨y, hy, e2⟩ := List.mem_map.1 this
    have := hA y hy
    rw [← e2]; omega
  simp only [frameOf, Nat.reduceAdd]
  repeat' (first | refine GW_seq ?_ | refine GW_line ?_ | refine Gw_nil ?_ | refine GN_seq ?_ | refine GN_blk ?_ | refine GW_block ?_ | refine GW_skip ?_ | refine GW_exit ?_ | refine GX_seq ?_ | refine GX_blk ?_ | refine GX_up rfl ?_ | refine GX_inv ?_ | refine GW_ret ?_ | refine GN_inv ?_ | refine GN_nil ?_ | refine GW_any rfl ?_ | refine Gp_nil ?_ | ((first | refine Gw_s fun K' hK' => ?_ | refine Gp_s fun K' hK' => ?_ | refine Gw_0 fun K' hK' => ?_ | intro K' hK'); (simp (disch := (first | (simp only [SD, SF, beq_self_eq_true, Nat.reduceLT, Nat.reduceAdd]; done) | ((fail_if_success (apply Bool.eq_iff_iff.2)); first | omega | (simp only [SD, SF, beq_self_eq_true, Nat.reduceLT, Nat.reduceAdd] <;> omega)) | fail)) only [↓SA, ↓GArg.ev, ↓evs, ↓evOpt, ↓evParts, ↓reduceIte, SB, SC, setL, if_true, if_false, Nat.reduceEqDiff, Nat.reduceAdd, Nat.reduceMul, reduceCtorEq, Int.reduceToNat, g8]; refine G1_go (hK' _ _ ?_); clear hK' K')) | ((first | refine Gw_dt fun A B C D hA hB hC hD => ?_ | refine Gw_df fun A B C D hA hB hC hD => ?_ | refine GW_cd fun A B C D hA hB hC hD => ?_); (simp only [↓Tr.get_set, Nat.reduceEqDiff, if_true, if_false, ↓reduceIte, g8]; first | (refine Gd_true (hA ?_); clear hA hB hC hD A B C D) | (refine Gd_false (hB ?_); clear hA hB hC hD A B C D) | (refine Gd_some (fun hc => hC ?_) (fun hc => hD ?_) <;> clear hA hB hC hD A B C D <;> (try simp only [decide_eq_true_eq, decide_eq_false_iff_not, Bool.not_eq_true', Bool.not_eq_false', Int.not_lt, Int.not_le, Bool.not_true, Bool.not_false, Bool.true_eq_false, Bool.false_eq_true, Decidable.not_not] at hc)))) | (refine Gw_u fun A hA => ?_; simp only [↓Tr.get_set, Nat.reduceEqDiff, if_true, if_false, ↓reduceIte, g8]; refine Gu_mk (hA ?_); clear hA A) | (refine GR.mk ?_; simp only [gresults, ↓Tr.get_set, Option.bind_some, Nat.reduceEqDiff, if_true, if_false, ↓reduceIte, gld_1, gld_n, g8]; refine ⟨_, rfl, ?_⟩; simp only [gone]))
  refine Gw_s fun K' hK' => G1_call (by simp only [gtarget, ↓GArg.ev, ↓evs, ↓Tr.get_set, Nat.reduceEqDiff, if_true, if_false, ↓reduceIte, Option.map_some]; rfl) (one_of (awake_gev _)) fun r0 H0 hq => hK' _ _ ?_
  obtain ⟨rfl, rfl⟩ := hq
  repeat' (first | refine GW_seq ?_ | refine GW_line ?_ | refine Gw_nil ?_ | refine GN_seq ?_ | refine GN_blk ?_ | refine GW_block ?_ | refine GW_skip ?_ | refine GW_exit ?_ | refine GX_seq ?_ | refine GX_blk ?_ | refine GX_up rfl ?_ | refine GX_inv ?_ | refine GW_ret ?_ | refine GN_inv ?_ | refine GN_nil ?_ | refine GW_any rfl ?_ | refine Gp_nil ?_ | ((first | refine Gw_s fun K' hK' => ?_ | refine Gp_s fun K' hK' => ?_ | refine Gw_0 fun K' hK' => ?_ | intro K' hK'); (simp (disch := (first | (simp only [SD, SF, beq_self_eq_true, Nat.reduceLT, Nat.reduceAdd]; done) | ((fail_if_success (apply Bool.eq_iff_iff.2)); first | omega | (simp only [SD, SF, beq_self_eq_true, Nat.reduceLT, Nat.reduceAdd] <;> omega)) | fail)) only [↓SA, ↓GArg.ev, ↓evs, ↓evOpt, ↓evParts, ↓reduceIte, SB, SC, setL, if_true, if_false, Nat.reduceEqDiff, Nat.reduceAdd, Nat.reduceMul, reduceCtorEq, Int.reduceToNat, g8]; refine G1_go (hK' _ _ ?_); clear hK' K')) | ((first | refine Gw_dt fun A B C D hA hB hC hD => ?_ | refine Gw_df fun A B C D hA hB hC hD => ?_ | refine GW_cd fun A B C D hA hB hC hD => ?_); (simp only [↓Tr.get_set, Nat.reduceEqDiff, if_true, if_false, ↓reduceIte, g8]; first | (refine Gd_true (hA ?_); clear hA hB hC hD A B C D) | (refine Gd_false (hB ?_); clear hA hB hC hD A B C D) | (refine Gd_some (fun hc => hC ?_) (fun hc => hD ?_) <;> clear hA hB hC hD A B C D <;> (try simp only [decide_eq_true_eq, decide_eq_false_iff_not, Bool.not_eq_true', Bool.not_eq_false', Int.not_lt, Int.not_le, Bool.not_true, Bool.not_false, Bool.true_eq_false, Bool.false_eq_true, Decidable.not_not] at hc)))) | (refine Gw_u fun A hA => ?_; simp only [↓Tr.get_set, Nat.reduceEqDiff, if_true, if_false, ↓reduceIte, g8]; refine Gu_mk (hA ?_); clear hA A) | (refine GR.mk ?_; simp only [gresults, ↓Tr.get_set, Option.bind_some, Nat.reduceEqDiff, if_true, if_false, ↓reduceIte, gld_1, gld_n, g8]; refine ⟨_, rfl, ?_⟩; simp only [gone]))
  refine Gw_s fun K' hK' => G1_call (by simp only [gtarget, ↓GArg.ev, ↓evs, ↓Tr.get_set, Nat.reduceEqDiff, if_true, if_false, ↓reduceIte, Option.map_some]; rfl) (rclone_ok hw ha hla hA) fun wv H1 hq1 => hK' _ _ ?_
  obtain ⟨LW, hTW, hLW⟩ := hq1
  repeat' (first | refine GW_seq ?_ | refine GW_line ?_ | refine Gw_nil ?_ | refine GN_seq ?_ | refine GN_blk ?_ | refine GW_block ?_ | refine GW_skip ?_ | refine GW_exit ?_ | refine GX_seq ?_ | refine GX_blk ?_ | refine GX_up rfl ?_ | refine GX_inv ?_ | refine GW_ret ?_ | refine GN_inv ?_ | refine GN_nil ?_ | refine GW_any rfl ?_ | refine Gp_nil ?_ | ((first | refine Gw_s fun K' hK' => ?_ | refine Gp_s fun K' hK' => ?_ | refine Gw_0 fun K' hK' => ?_ | intro K' hK'); (simp (disch := (first | (simp only [SD, SF, beq_self_eq_true, Nat.reduceLT, Nat.reduceAdd]; done) | ((fail_if_success (apply Bool.eq_iff_iff.2)); first | omega | (simp only [SD, SF, beq_self_eq_true, Nat.reduceLT, Nat.reduceAdd] <;> omega)) | fail)) only [↓SA, ↓GArg.ev, ↓evs, ↓evOpt, ↓evParts, ↓reduceIte, SB, SC, setL, if_true, if_false, Nat.reduceEqDiff, Nat.reduceAdd, Nat.reduceMul, reduceCtorEq, Int.reduceToNat, g8]; refine G1_go (hK' _ _ ?_); clear hK' K')) | ((first | refine Gw_dt fun A B C D hA hB hC hD => ?_ | refine Gw_df fun A B C D hA hB hC hD => ?_ | refine GW_cd fun A B C D hA hB hC hD => ?_); (simp only [↓Tr.get_set, Nat.reduceEqDiff, if_true, if_false, ↓reduceIte, g8]; first | (refine Gd_true (hA ?_); clear hA hB hC hD A B C D) | (refine Gd_false (hB ?_); clear hA hB hC hD A B C D) | (refine Gd_some (fun hc => hC ?_) (fun hc => hD ?_) <;> clear hA hB hC hD A B C D <;> (try simp only [decide_eq_true_eq, decide_eq_false_iff_not, Bool.not_eq_true', Bool.not_eq_false', Int.not_lt, Int.not_le, Bool.not_true, Bool.not_false, Bool.true_eq_false, Bool.false_eq_true, Decidable.not_not] at hc)))) | (refine Gw_u fun A hA => ?_; simp only [↓Tr.get_set, Nat.reduceEqDiff, if_true, if_false, ↓reduceIte, g8]; refine Gu_mk (hA ?_); clear hA A) | (refine GR.mk ?_; simp only [gresults, ↓Tr.get_set, Option.bind_some, Nat.reduceEqDiff, if_true, if_false, ↓reduceIte, gld_1, gld_n, g8]; refine ⟨_, rfl, ?_⟩; simp only [gone]))
  refine Gw_s fun K' hK' => G1_call (by simp only [gtarget, ↓GArg.ev, ↓evs, ↓Tr.get_set, Nat.reduceEqDiff, if_true, if_false, ↓reduceIte, Option.map_some]; rfl) (clone_ok hTW.own.same.wf (ha.later hw hTW.own.same) hla hA) fun cv H2 hq2 => hK' _ _ ?_
  obtain ⟨LC, hTC, hLC⟩ := hq2
  have hS2 := hTW.own.same.trans hTC.own.same
  repeat' (first | refine GW_seq ?_ | refine GW_line ?_ | refine Gw_nil ?_ | refine GN_seq ?_ | refine GN_blk ?_ | refine GW_block ?_ | refine GW_skip ?_ | refine GW_exit ?_ | refine GX_seq ?_ | refine GX_blk ?_ | refine GX_up rfl ?_ | refine GX_inv ?_ | refine GW_ret ?_ | refine GN_inv ?_ | refine GN_nil ?_ | refine GW_any rfl ?_ | refine Gp_nil ?_ | ((first | refine Gw_s fun K' hK' => ?_ | refine Gp_s fun K' hK' => ?_ | refine Gw_0 fun K' hK' => ?_ | intro K' hK'); (simp (disch := (first | (simp only [SD, SF, beq_self_eq_true, Nat.reduceLT, Nat.reduceAdd]; done) | ((fail_if_success (apply Bool.eq_iff_iff.2)); first | omega | (simp only [SD, SF, beq_self_eq_true, Nat.reduceLT, Nat.reduceAdd] <;> omega)) | fail)) only [↓SA, ↓GArg.ev, ↓evs, ↓evOpt, ↓evParts, ↓reduceIte, SB, SC, setL, if_true, if_false, Nat.reduceEqDiff, Nat.reduceAdd, Nat.reduceMul, reduceCtorEq, Int.reduceToNat, g8]; refine G1_go (hK' _ _ ?_); clear hK' K')) | ((first | refine Gw_dt fun A B C D hA hB hC hD => ?_ | refine Gw_df fun A B C D hA hB hC hD => ?_ | refine GW_cd fun A B C D hA hB hC hD => ?_); (simp only [↓Tr.get_set, Nat.reduceEqDiff, if_true, if_false, ↓reduceIte, g8]; first | (refine Gd_true (hA ?_); clear hA hB hC hD A B C D) | (refine Gd_false (hB ?_); clear hA hB hC hD A B C D) | (refine Gd_some (fun hc => hC ?_) (fun hc => hD ?_) <;> clear hA hB hC hD A B C D <;> (try simp only [decide_eq_true_eq, decide_eq_false_iff_not, Bool.not_eq_true', Bool.not_eq_false', Int.not_lt, Int.not_le, Bool.not_true, Bool.not_false, Bool.true_eq_false, Bool.false_eq_true, Decidable.not_not] at hc)))) | (refine Gw_u fun A hA => ?_; simp only [↓Tr.get_set, Nat.reduceEqDiff, if_true, if_false, ↓reduceIte, g8]; refine Gu_mk (hA ?_); clear hA A) | (refine GR.mk ?_; simp only [gresults, ↓Tr.get_set, Option.bind_some, Nat.reduceEqDiff, if_true, if_false, ↓reduceIte, gld_1, gld_n, g8]; refine ⟨_, rfl, ?_⟩; simp only [gone]))
  refine Gw_s fun K' hK' => G1_call (by simp only [gtarget, ↓GArg.ev, ↓evs, ↓Tr.get_set, Nat.reduceEqDiff, if_true, if_false, ↓reduceIte, Option.map_some]; rfl) (rsameRows_ok hTC.own.same.wf hTC.tr (ha.later hw hS2) (by have := (hsh LC hLC).2; omega) (by omega) (hsh LC hLC).1 hA') fun r3 H3 hq3 => hK' _ _ ?_
  obtain ⟨rfl, hS3⟩ := hq3
  rw [decide_eq_true hLC]
  have hTC3 := hTC.later hS3
  have hsl : IsSl cv LC.length := hTC.own.rd.isSl
  repeat' (first | refine GW_seq ?_ | refine GW_line ?_ | refine Gw_nil ?_ | refine GN_seq ?_ | refine GN_blk ?_ | refine GW_block ?_ | refine GW_skip ?_ | refine GW_exit ?_ | refine GX_seq ?_ | refine GX_blk ?_ | refine GX_up rfl ?_ | refine GX_inv ?_ | refine GW_ret ?_ | refine GN_inv ?_ | refine GN_nil ?_ | refine GW_any rfl ?_ | refine Gp_nil ?_ | ((first | refine Gw_s fun K' hK' => ?_ | refine Gp_s fun K' hK' => ?_ | refine Gw_0 fun K' hK' => ?_ | intro K' hK'); (simp (disch := (first | (simp only [SD, SF, beq_self_eq_true, Nat.reduceLT, Nat.reduceAdd]; done) | ((fail_if_success (apply Bool.eq_iff_iff.2)); first | omega | (simp only [SD, SF, beq_self_eq_true, Nat.reduceLT, Nat.reduceAdd] <;> omega)) | fail)) only [↓SA, ↓GArg.ev, ↓evs, ↓evOpt, ↓evParts, ↓reduceIte, SB, SC, setL, if_true, if_false, Nat.reduceEqDiff, Nat.reduceAdd, Nat.reduceMul, reduceCtorEq, Int.reduceToNat, g8, hsl.len]; refine G1_go (hK' _ _ ?_); clear hK' K')) | ((first | refine Gw_dt fun A B C D hA hB hC hD => ?_ | refine Gw_df fun A B C D hA hB hC hD => ?_ | refine GW_cd fun A B C D hA hB hC hD => ?_); (simp only [↓Tr.get_set, Nat.reduceEqDiff, if_true, if_false, ↓reduceIte, g8, hsl.len]; first | (refine Gd_true (hA ?_); clear hA hB hC hD A B C D) | (refine Gd_false (hB ?_); clear hA hB hC hD A B C D) | (refine Gd_some (fun hc => hC ?_) (fun hc => hD ?_) <;> clear hA hB hC hD A B C D <;> (try simp only [decide_eq_true_eq, decide_eq_false_iff_not, Bool.not_eq_true', Bool.not_eq_false', Int.not_lt, Int.not_le, Bool.not_true, Bool.not_false, Bool.true_eq_false, Bool.false_eq_true, Decidable.not_not] at hc)))) | (refine Gw_u fun A hA => ?_; simp only [↓Tr.get_set, Nat.reduceEqDiff, if_true, if_false, ↓reduceIte, g8, hsl.len]; refine Gu_mk (hA ?_); clear hA A) | (refine GR.mk ?_; simp only [gresults, ↓Tr.get_set, Option.bind_some, Nat.reduceEqDiff, if_true, if_false, ↓reduceIte, gld_1, gld_n, g8, hsl.len]; refine ⟨_, rfl, ?_⟩; simp only [gone]))
  have hlim1 := hTW.own.same.wf
  refine GW_loop (fun k fr H4 => ∃ (i : Nat) (L : List VR'), k = LC.length - i ∧ i ≤ LC.length ∧ fr.get 0 = some (a) ∧ fr.get 3 = some (wv) ∧ fr.get 4 = some (cv) ∧ fr.get 18 = some (.int .i64 LC.length) ∧ fr.get 19 = some (.int .i64 i) ∧ TO H1 H4 cv L ∧ lensT L = lensT LC) ?_ LC.length ?_
  rotate_left
  · refine ⟨0, LC, by omega, by omega, ?_⟩
    simp only [↓Tr.get_set, Nat.reduceEqDiff, if_true, if_false, ↓reduceIte, Int.natCast_add, Int.cast_ofNat_Int, Int.natCast_zero, true_and, and_true, Option.some.injEq, Value.int.injEq]
    exact hTC3
  rintro k fr H4 ⟨i, L, rfl, hi, f0, f3, f4, f18, f19, hT, hL⟩ J hJ
  have hwH := hT.own.same.wf
  have hLC' := (hsh LC hLC).2
  by_cases hi1 : i < LC.length
  · obtain ⟨hLl, hLa⟩ := lensT_at hL (i := i)
    obtain ⟨_, hr, r1⟩ := hT.tr.row (j := i) (by omega)
    have hb : L[i]!.2.length ≤ 4611686018427387904 := by
      have h1 := (hsh LC hLC).1.at_ hi1
      have h2 := (hLa hi1).2
      omega
    have hrs := r1.isSl
    have hslL : IsSl cv L.length := hT.own.rd.isSl
    rw [hLl] at hslL
    repeat' (first | (exfalso; omega) | refine GW_seq ?_ | refine GW_line ?_ | refine Gw_nil ?_ | refine GN_seq ?_ | refine GN_blk ?_ | refine GW_block ?_ | refine GW_skip ?_ | refine GW_exit ?_ | refine GX_seq ?_ | refine GX_blk ?_ | refine GX_up rfl ?_ | refine GX_inv ?_ | refine GW_ret ?_ | refine GN_inv ?_ | refine GN_nil ?_ | refine GW_any rfl ?_ | refine Gp_nil ?_ | ((first | refine Gw_s fun K' hK' => ?_ | refine Gp_s fun K' hK' => ?_ | refine Gw_0 fun K' hK' => ?_ | intro K' hK'); (simp (disch := (first | (simp only [SD, SF, beq_self_eq_true, Nat.reduceLT, Nat.reduceAdd]; done) | ((fail_if_success (apply Bool.eq_iff_iff.2)); first | omega | (simp only [SD, SF, beq_self_eq_true, Nat.reduceLT, Nat.reduceAdd] <;> omega)) | fail)) only [↓SA, ↓GArg.ev, ↓evs, ↓evOpt, ↓evParts, ↓reduceIte, SB, SC, setL, if_true, if_false, Nat.reduceEqDiff, Nat.reduceAdd, Nat.reduceMul, reduceCtorEq, Int.reduceToNat, g8, f0, f3, f4, f18, f19, hslL.ia, hr, hrs.len]; refine G1_go (hK' _ _ ?_); clear hK' K')) | ((first | refine Gw_dt fun A B C D hA hB hC hD => ?_ | refine Gw_df fun A B C D hA hB hC hD => ?_ | refine GW_cd fun A B C D hA hB hC hD => ?_); (simp only [↓Tr.get_set, Nat.reduceEqDiff, if_true, if_false, ↓reduceIte, g8, f0, f3, f4, f18, f19, hslL.ia, hr, hrs.len]; first | (refine Gd_true (hA ?_); clear hA hB hC hD A B C D) | (refine Gd_false (hB ?_); clear hA hB hC hD A B C D) | (refine Gd_some (fun hc => hC ?_) (fun hc => hD ?_) <;> clear hA hB hC hD A B C D <;> (try simp only [decide_eq_true_eq, decide_eq_false_iff_not, Bool.not_eq_true', Bool.not_eq_false', Int.not_lt, Int.not_le, Bool.not_true, Bool.not_false, Bool.true_eq_false, Bool.false_eq_true, Decidable.not_not] at hc)))) | (refine Gw_u fun A hA => ?_; simp only [↓Tr.get_set, Nat.reduceEqDiff, if_true, if_false, ↓reduceIte, g8, f0, f3, f4, f18, f19, hslL.ia, hr, hrs.len]; refine Gu_mk (hA ?_); clear hA A) | (refine GR.mk ?_; simp only [gresults, ↓Tr.get_set, Option.bind_some, Nat.reduceEqDiff, if_true, if_false, ↓reduceIte, gld_1, gld_n, g8, f0, f3, f4, f18, f19, hslL.ia, hr, hrs.len]; refine ⟨_, rfl, ?_⟩; simp only [gone]))
    refine GW_loop (fun k fr H5 => ∃ (q : Nat) (L5 : List VR'), k = L[i]!.2.length - q ∧ q ≤ L[i]!.2.length ∧ fr.get 0 = some (a) ∧ fr.get 3 = some (wv) ∧ fr.get 4 = some (cv) ∧ fr.get 5 = some (.int .i64 i) ∧ fr.get 18 = some (.int .i64 LC.length) ∧ fr.get 19 = some (.int .i64 i) ∧ fr.get 27 = some (.int .i64 L[i]!.2.length) ∧ fr.get 28 = some (.int .i64 q) ∧ TO H1 H5 cv L5 ∧ lensT L5 = lensT L) ?_ L[i]!.2.length ?_
    rotate_left
    · refine ⟨0, L, by omega, by omega, ?_⟩
      simp only [↓Tr.get_set, Nat.reduceEqDiff, if_true, if_false, ↓reduceIte, Int.natCast_add, Int.cast_ofNat_Int, Int.natCast_zero, true_and, and_true, Option.some.injEq, Value.int.injEq, f0, f3, f4, f18, f19]
      exact hT
    rintro k fr2 H5 ⟨q, L5, rfl, hq, i0, i3, i4, i5, i18, i19, i27, i28, hT5, hL5⟩ J5 hJ5
    obtain ⟨hL5l, hL5a⟩ := lensT_at hL5 (i := i)
    obtain ⟨hL5a1, hL5a2⟩ := hL5a (by omega)
    by_cases hq1 : q < L[i]!.2.length
    · obtain ⟨_, hr5, r5⟩ := hT5.tr.row (j := i) (by omega)
      have hrs5 := r5.isSl
      obtain ⟨H6, L6, e6, hT6, hL6⟩ := hT5.put (i := i) (k := q) (by omega) (by omega) chgB
      rw [show strB chgB = ⟨#[67, 72, 65, 78, 71, 69, 68]⟩ from rfl] at e6
      have hs5 : IsSl cv LC.length := by
        have : IsSl cv L5.length := hT5.own.rd.isSl
        rwa [hL5l, hLl] at this
      rw [hL5a1] at hr5 hrs5 e6
      rw [hL5a2] at hrs5
      repeat' (first | (exfalso; omega) | refine GW_seq ?_ | refine GW_line ?_ | refine Gw_nil ?_ | refine GN_seq ?_ | refine GN_blk ?_ | refine GW_block ?_ | refine GW_skip ?_ | refine GW_exit ?_ | refine GX_seq ?_ | refine GX_blk ?_ | refine GX_up rfl ?_ | refine GX_inv ?_ | refine GW_ret ?_ | refine GN_inv ?_ | refine GN_nil ?_ | refine GW_any rfl ?_ | refine Gp_nil ?_ | ((first | refine Gw_s fun K' hK' => ?_ | refine Gp_s fun K' hK' => ?_ | refine Gw_0 fun K' hK' => ?_ | intro K' hK'); (simp (disch := (first | (simp only [SD, SF, beq_self_eq_true, Nat.reduceLT, Nat.reduceAdd]; done) | ((fail_if_success (apply Bool.eq_iff_iff.2)); first | omega | (simp only [SD, SF, beq_self_eq_true, Nat.reduceLT, Nat.reduceAdd] <;> omega)) | fail)) only [↓SA, ↓GArg.ev, ↓evs, ↓evOpt, ↓evParts, ↓reduceIte, SB, SC, setL, if_true, if_false, Nat.reduceEqDiff, Nat.reduceAdd, Nat.reduceMul, reduceCtorEq, Int.reduceToNat, g8, f0, f3, f4, f18, f19, i0, i3, i4, i5, i18, i19, i27, i28, hs5.ia, hr5, hrs5.ia, e6, Nat.add_zero]; refine G1_go (hK' _ _ ?_); clear hK' K')) | ((first | refine Gw_dt fun A B C D hA hB hC hD => ?_ | refine Gw_df fun A B C D hA hB hC hD => ?_ | refine GW_cd fun A B C D hA hB hC hD => ?_); (simp only [↓Tr.get_set, Nat.reduceEqDiff, if_true, if_false, ↓reduceIte, g8, f0, f3, f4, f18, f19, i0, i3, i4, i5, i18, i19, i27, i28, hs5.ia, hr5, hrs5.ia, e6, Nat.add_zero]; first | (refine Gd_true (hA ?_); clear hA hB hC hD A B C D) | (refine Gd_false (hB ?_); clear hA hB hC hD A B C D) | (refine Gd_some (fun hc => hC ?_) (fun hc => hD ?_) <;> clear hA hB hC hD A B C D <;> (try simp only [decide_eq_true_eq, decide_eq_false_iff_not, Bool.not_eq_true', Bool.not_eq_false', Int.not_lt, Int.not_le, Bool.not_true, Bool.not_false, Bool.true_eq_false, Bool.false_eq_true, Decidable.not_not] at hc)))) | (refine Gw_u fun A hA => ?_; simp only [↓Tr.get_set, Nat.reduceEqDiff, if_true, if_false, ↓reduceIte, g8, f0, f3, f4, f18, f19, i0, i3, i4, i5, i18, i19, i27, i28, hs5.ia, hr5, hrs5.ia, e6, Nat.add_zero]; refine Gu_mk (hA ?_); clear hA A) | (refine GR.mk ?_; simp only [gresults, ↓Tr.get_set, Option.bind_some, Nat.reduceEqDiff, if_true, if_false, ↓reduceIte, gld_1, gld_n, g8, f0, f3, f4, f18, f19, i0, i3, i4, i5, i18, i19, i27, i28, hs5.ia, hr5, hrs5.ia, e6, Nat.add_zero]; refine ⟨_, rfl, ?_⟩; simp only [gone]))
      refine hJ5 _ _ ⟨L[i]!.2.length - (q + 1), by omega, q + 1, L6, rfl, by omega, ?_⟩
      simp only [↓Tr.get_set, Nat.reduceEqDiff, if_true, if_false, ↓reduceIte, Int.natCast_add, Int.cast_ofNat_Int, Int.natCast_zero, true_and, and_true, Option.some.injEq, Value.int.injEq, i0, i3, i4, i5, i18, i19, i27]
      exact ⟨hT6, hL6.trans hL5⟩
    · obtain rfl : q = L[i]!.2.length := by omega
      repeat' (first | (exfalso; omega) | refine GW_seq ?_ | refine GW_line ?_ | refine Gw_nil ?_ | refine GN_seq ?_ | refine GN_blk ?_ | refine GW_block ?_ | refine GW_skip ?_ | refine GW_exit ?_ | refine GX_seq ?_ | refine GX_blk ?_ | refine GX_up rfl ?_ | refine GX_inv ?_ | refine GW_ret ?_ | refine GN_inv ?_ | refine GN_nil ?_ | refine GW_any rfl ?_ | refine Gp_nil ?_ | ((first | refine Gw_s fun K' hK' => ?_ | refine Gp_s fun K' hK' => ?_ | refine Gw_0 fun K' hK' => ?_ | intro K' hK'); (simp (disch := (first | (simp only [SD, SF, beq_self_eq_true, Nat.reduceLT, Nat.reduceAdd]; done) | ((fail_if_success (apply Bool.eq_iff_iff.2)); first | omega | (simp only [SD, SF, beq_self_eq_true, Nat.reduceLT, Nat.reduceAdd] <;> omega)) | fail)) only [↓SA, ↓GArg.ev, ↓evs, ↓evOpt, ↓evParts, ↓reduceIte, SB, SC, setL, if_true, if_false, Nat.reduceEqDiff, Nat.reduceAdd, Nat.reduceMul, reduceCtorEq, Int.reduceToNat, g8, i0, i3, i4, i5, i18, i19, i27, i28]; refine G1_go (hK' _ _ ?_); clear hK' K')) | ((first | refine Gw_dt fun A B C D hA hB hC hD => ?_ | refine Gw_df fun A B C D hA hB hC hD => ?_ | refine GW_cd fun A B C D hA hB hC hD => ?_); (simp only [↓Tr.get_set, Nat.reduceEqDiff, if_true, if_false, ↓reduceIte, g8, i0, i3, i4, i5, i18, i19, i27, i28]; first | (refine Gd_true (hA ?_); clear hA hB hC hD A B C D) | (refine Gd_false (hB ?_); clear hA hB hC hD A B C D) | (refine Gd_some (fun hc => hC ?_) (fun hc => hD ?_) <;> clear hA hB hC hD A B C D <;> (try simp only [decide_eq_true_eq, decide_eq_false_iff_not, Bool.not_eq_true', Bool.not_eq_false', Int.not_lt, Int.not_le, Bool.not_true, Bool.not_false, Bool.true_eq_false, Bool.false_eq_true, Decidable.not_not] at hc)))) | (refine Gw_u fun A hA => ?_; simp only [↓Tr.get_set, Nat.reduceEqDiff, if_true, if_false, ↓reduceIte, g8, i0, i3, i4, i5, i18, i19, i27, i28]; refine Gu_mk (hA ?_); clear hA A) | (refine GR.mk ?_; simp only [gresults, ↓Tr.get_set, Option.bind_some, Nat.reduceEqDiff, if_true, if_false, ↓reduceIte, gld_1, gld_n, g8, i0, i3, i4, i5, i18, i19, i27, i28]; refine ⟨_, rfl, ?_⟩; simp only [gone]))
      refine hJ _ _ ⟨LC.length - (i + 1), by omega, i + 1, L5, rfl, by omega, ?_⟩
      simp only [↓Tr.get_set, Nat.reduceEqDiff, if_true, if_false, ↓reduceIte, Int.natCast_add, Int.cast_ofNat_Int, Int.natCast_zero, true_and, and_true, Option.some.injEq, Value.int.injEq, i0, i3, i4, i18]
      exact ⟨hT5, hL5.trans hL⟩
  · obtain rfl : i = LC.length := by omega
    have hSH4 := hTW.own.same.trans hT.own.same
    have hTW4 := hTW.later hT.own.same
    repeat' (first | (exfalso; omega) | refine GW_seq ?_ | refine GW_line ?_ | refine Gw_nil ?_ | refine GN_seq ?_ | refine GN_blk ?_ | refine GW_block ?_ | refine GW_skip ?_ | refine GW_exit ?_ | refine GX_seq ?_ | refine GX_blk ?_ | refine GX_up rfl ?_ | refine GX_inv ?_ | refine GW_ret ?_ | refine GN_inv ?_ | refine GN_nil ?_ | refine GW_any rfl ?_ | refine Gp_nil ?_ | ((first | refine Gw_s fun K' hK' => ?_ | refine Gp_s fun K' hK' => ?_ | refine Gw_0 fun K' hK' => ?_ | intro K' hK'); (simp (disch := (first | (simp only [SD, SF, beq_self_eq_true, Nat.reduceLT, Nat.reduceAdd]; done) | ((fail_if_success (apply Bool.eq_iff_iff.2)); first | omega | (simp only [SD, SF, beq_self_eq_true, Nat.reduceLT, Nat.reduceAdd] <;> omega)) | fail)) only [↓SA, ↓GArg.ev, ↓evs, ↓evOpt, ↓evParts, ↓reduceIte, SB, SC, setL, if_true, if_false, Nat.reduceEqDiff, Nat.reduceAdd, Nat.reduceMul, reduceCtorEq, Int.reduceToNat, g8, f0, f3, f4, f18, f19]; refine G1_go (hK' _ _ ?_); clear hK' K')) | ((first | refine Gw_dt fun A B C D hA hB hC hD => ?_ | refine Gw_df fun A B C D hA hB hC hD => ?_ | refine GW_cd fun A B C D hA hB hC hD => ?_); (simp only [↓Tr.get_set, Nat.reduceEqDiff, if_true, if_false, ↓reduceIte, g8, f0, f3, f4, f18, f19]; first | (refine Gd_true (hA ?_); clear hA hB hC hD A B C D) | (refine Gd_false (hB ?_); clear hA hB hC hD A B C D) | (refine Gd_some (fun hc => hC ?_) (fun hc => hD ?_) <;> clear hA hB hC hD A B C D <;> (try simp only [decide_eq_true_eq, decide_eq_false_iff_not, Bool.not_eq_true', Bool.not_eq_false', Int.not_lt, Int.not_le, Bool.not_true, Bool.not_false, Bool.true_eq_false, Bool.false_eq_true, Decidable.not_not] at hc)))) | (refine Gw_u fun A hA => ?_; simp only [↓Tr.get_set, Nat.reduceEqDiff, if_true, if_false, ↓reduceIte, g8, f0, f3, f4, f18, f19]; refine Gu_mk (hA ?_); clear hA A) | (refine GR.mk ?_; simp only [gresults, ↓Tr.get_set, Option.bind_some, Nat.reduceEqDiff, if_true, if_false, ↓reduceIte, gld_1, gld_n, g8, f0, f3, f4, f18, f19]; refine ⟨_, rfl, ?_⟩; simp only [gone]))
    refine Gw_s fun K' hK' => G1_call (by simp only [gtarget, ↓GArg.ev, ↓evs, ↓Tr.get_set, Nat.reduceEqDiff, if_true, if_false, ↓reduceIte, Option.map_some, f0, f3, f4, f18, f19]; rfl) (rsameRows_ok hwH (ha.later hw hSH4) hTW4.tr (by omega) (by have := (hsh LW hLW).2; omega) hA' (hsh LW hLW).1) fun r7 H7 hq7 => hK' _ _ ?_
    obtain ⟨rfl, hS7⟩ := hq7
    rw [decide_eq_true hLW.symm]
    repeat' (first | (exfalso; omega) | refine GW_seq ?_ | refine GW_line ?_ | refine Gw_nil ?_ | refine GN_seq ?_ | refine GN_blk ?_ | refine GW_block ?_ | refine GW_skip ?_ | refine GW_exit ?_ | refine GX_seq ?_ | refine GX_blk ?_ | refine GX_up rfl ?_ | refine GX_inv ?_ | refine GW_ret ?_ | refine GN_inv ?_ | refine GN_nil ?_ | refine GW_any rfl ?_ | refine Gp_nil ?_ | ((first | refine Gw_s fun K' hK' => ?_ | refine Gp_s fun K' hK' => ?_ | refine Gw_0 fun K' hK' => ?_ | intro K' hK'); (simp (disch := (first | (simp only [SD, SF, beq_self_eq_true, Nat.reduceLT, Nat.reduceAdd]; done) | ((fail_if_success (apply Bool.eq_iff_iff.2)); first | omega | (simp only [SD, SF, beq_self_eq_true, Nat.reduceLT, Nat.reduceAdd] <;> omega)) | fail)) only [↓SA, ↓GArg.ev, ↓evs, ↓evOpt, ↓evParts, ↓reduceIte, SB, SC, setL, if_true, if_false, Nat.reduceEqDiff, Nat.reduceAdd, Nat.reduceMul, reduceCtorEq, Int.reduceToNat, g8, f0, f3, f4, f18, f19]; refine G1_go (hK' _ _ ?_); clear hK' K')) | ((first | refine Gw_dt fun A B C D hA hB hC hD => ?_ | refine Gw_df fun A B C D hA hB hC hD => ?_ | refine GW_cd fun A B C D hA hB hC hD => ?_); (simp only [↓Tr.get_set, Nat.reduceEqDiff, if_true, if_false, ↓reduceIte, g8, f0, f3, f4, f18, f19]; first | (refine Gd_true (hA ?_); clear hA hB hC hD A B C D) | (refine Gd_false (hB ?_); clear hA hB hC hD A B C D) | (refine Gd_some (fun hc => hC ?_) (fun hc => hD ?_) <;> clear hA hB hC hD A B C D <;> (try simp only [decide_eq_true_eq, decide_eq_false_iff_not, Bool.not_eq_true', Bool.not_eq_false', Int.not_lt, Int.not_le, Bool.not_true, Bool.not_false, Bool.true_eq_false, Bool.false_eq_true, Decidable.not_not] at hc)))) | (refine Gw_u fun A hA => ?_; simp only [↓Tr.get_set, Nat.reduceEqDiff, if_true, if_false, ↓reduceIte, g8, f0, f3, f4, f18, f19]; refine Gu_mk (hA ?_); clear hA A) | (refine GR.mk ?_; simp only [gresults, ↓Tr.get_set, Option.bind_some, Nat.reduceEqDiff, if_true, if_false, ↓reduceIte, gld_1, gld_n, g8, f0, f3, f4, f18, f19]; refine ⟨_, rfl, ?_⟩; simp only [gone]))
    exact hPost _ _ rfl
def runShp : Shp := .st [.str, .st [.int .u8, .bool, .bool], .str]
theorem bs_of (s : ByteArray) : s = strB s.data.toList := (strB_of s).symm
theorem run_of {Q : Nat → Prop} {H : GHeap} {r : List Value} (h : RdSQ Q H runShp r) : ∃ x : SR, r = runC x := by
  simp only [runShp, RdSQ, RdSsQ] at h
  obtain ⟨_, _, rfl, ⟨s, rfl, _⟩, _, _, rfl, ⟨_, _, rfl, ⟨c, rfl, _⟩, _, _, rfl, ⟨i, rfl⟩, _, _, rfl, ⟨u, rfl⟩, rfl⟩, _, _, rfl, ⟨y, rfl, _⟩, rfl⟩ := h
  refine ⟨⟨s.data.toList, ⟨c, i, u⟩, y.data.toList⟩, ?_⟩
  simp [runC, strB_of]
theorem keeps_law {H : GHeap} (hw : H.wf) {gvs : List Value} (h : RdAs H [.sl (.st [.sl runShp])] gvs) : ∃ v H2, gev G 8 gvs H = some (v, H2) ∧ v = .bool true := by
  obtain ⟨gv, _, rfl, h1, rfl⟩ := h
  obtain ⟨l, k1, k2, k3⟩ := h1.sl_ (f := fun v => [v]) fun r hr => by
    simp only [RdSQ, RdSsQ] at hr
    obtain ⟨_, _, rfl, ⟨v, _, rfl, _⟩, rfl⟩ := hr
    exact ⟨v, rfl⟩
  have k4 := k2.2
  have hlo : (Shp.st [.sl runShp]).lo = 24 := by decide
  have hlo2 : runShp.lo = 40 := by decide
  rw [hlo] at k4
  simp only [reachBytes] at k4
  have key : ∀ l : List Value, (∀ x ∈ l, RdSQ (fun _ => True) H (.st [.sl runShp]) [x]) → ∃ L : List VR', L.map (·.1) = l ∧ ∀ x ∈ L, RR H x.1 x.2 ∧ x.2.length * 40 ≤ 140737488351232 := by
    intro l
    induction l with
    | nil => intro _; exact ⟨[], rfl, by simp⟩
    | cons x l ih =>
      intro hh
      obtain ⟨L, h1, h2⟩ := ih fun y hy => hh y (by simp [hy])
      have h3 := hh x (by simp)
      simp only [RdSsQ, RdSQ] at h3
      obtain ⟨p, q, e, h4, rfl⟩ := h3
      have h5 : RdA H (.sl runShp) x := by
        simp only [RdA, RdAQ, RdSQ]
        obtain ⟨v, rows, rfl, h6⟩ := h4
        have : x = v := by simpa using e
        subst this
        exact ⟨x, rows, rfl, h6⟩
      obtain ⟨m, m1, m2, m3⟩ := RdAQ.sl_ (f := runC) h5 fun r hr => run_of hr
      refine ⟨(x, m) :: L, by simp [h1], fun y hy => ?_⟩
      rcases List.mem_cons.1 hy with rfl | hy
      · refine ⟨m1, ?_⟩
        have := m2.2
        rw [hlo2] at this
        simpa [reachBytes] using this
      · exact h2 y hy
  obtain ⟨L, rfl, h2⟩ := key l k3
  have k1' : GArg1 H 1 gv L.length (L.map (·.1)) := by
    have : (L.map (·.1)).flatMap (fun v => [v]) = L.map (·.1) := by
      rw [List.flatMap_singleton']
    rw [this, List.length_map] at k1
    exact k1
  rw [List.length_map] at k4
  exact keeps_ok hw ⟨k1', fun x hx => (h2 x hx).1⟩ k4 fun x hx => (h2 x hx).2
end Go.Gh
