/-
  shortest of diffcon, walked.
-/
import Derived.Test.YtfcbdkbdalbjmaaDgRests
namespace Go.Gh
set_option linter.unusedSimpArgs false
set_option linter.unusedVariables false
open Go.RowKit
set_option maxRecDepth 4000

def negAt (n : Nat) (es : List Ed) (size s : Nat) : Bool := decide (gx (postRows n es s size) s < 0)
/-- the first number of bounds for which a closed chain of so many is below 0; 0: none up to n -/
def shortF (n : Nat) (es : List Ed) (size : Nat) : Nat := ((List.range' size (n + 1 - size)).find? fun k => (List.range n).any (negAt n es k)).getD 0
theorem short_step {n : Nat} {es : List Ed} {k : Nat} (h : k ≤ n) : shortF n es k = if (List.range n).any (negAt n es k) = true then k else shortF n es (k + 1) := by
  unfold shortF
  rw [show n + 1 - k = n + 1 - (k + 1) + 1 by omega, List.range'_succ, List.find?_cons]
  cases (List.range n).any (negAt n es k) <;> rfl
theorem short_end {n : Nat} {es : List Ed} {k : Nat} (h : n < k) : shortF n es k = 0 := by
  unfold shortF; rw [show n + 1 - k = 0 by omega]; rfl
theorem post1_min {prev d : List Int} {b : Bd} (h : ¬ prev[b.I.toNat]! = 1152921504606846976) : d.set b.J.toNat (min d[b.J.toNat]! (prev[b.I.toNat]! + b.C)) = post1 prev d (edge b) := by
  unfold post1
  simp only [gx_eq, edge]
  by_cases h2 : prev[b.I.toNat]! + b.C < d[b.J.toNat]!
  · rw [if_pos ⟨h, h2⟩, Int.min_eq_right (by omega)]
  · rw [if_neg (fun k => h2 k.2), Int.min_eq_left (by omega), list_set_self]
theorem post1_no {prev d : List Int} {b : Bd} (h : prev[b.I.toNat]! = 1152921504606846976) : post1 prev d (edge b) = d := by
  unfold post1
  rw [if_neg]
  rintro ⟨h1, _⟩
  rw [gx_eq] at h1
  exact h1 h
section
variable {H H1 : GHeap} {io s n : Nat} {ids : List Nat} {rows : Nat → List Int}
/-- a new row in the place of an old one -/
theorem RS.swap (h : RS H H1 io s n ids rows) {k x : Nat} (hk : k < ids.length) {y : List Int} (hx0 : H.len ≤ x) (hx1 : x < H1.len) (hx2 : x ≠ io) (hx3 : ∀ j, j < ids.length → ids[j]! ≠ x) (hm : H1.mine x = some (ints .i64 y, 1)) :
    gset (tab s ids n) k (.slice (some ⟨x, 0, none⟩) n (n + 1)) = some (tab s (ids.set k x) n) ∧ RS H (H1.put io (.cells (tab s (ids.set k x) n) 1 true)) io s n (ids.set k x) (updR rows k y) := by
  have hks : k < s := Nat.lt_of_lt_of_le hk h.len
  have hset : ∀ j, j < ids.length → (ids.set k x)[j]! = if k = j then x else ids[j]! := by
    intro j hj
    rw [getElem!_pos _ j (by simpa using hj), List.getElem_set, getElem!_pos ids j hj]
  have hio : H1.lim ≤ io := (mine_obj h.out).1
  constructor
  · rw [gset_ok (by rw [tab_len]; exact hks) flatV_sl]
    congr 1
    refine List.ext_getElem? fun j => ?_
    rw [List.getElem?_set]
    by_cases e : k = j
    · subst e
      rw [if_pos rfl, if_pos (by rw [tab_len]; exact hks), tab_get hks (by simpa using hk), hset k hk, if_pos rfl]
    · rw [if_neg e]
      by_cases hj : j < s
      · by_cases hj2 : j < ids.length
        · rw [tab_get hj hj2, tab_get hj (by simpa using hj2), hset j hj2, if_neg e]
        · simp only [tab, List.getElem?_map, List.getElem?_range hj, Option.map_some, List.length_set, if_neg hj2]
      · rw [List.getElem?_eq_none (by rw [tab_len]; omega), List.getElem?_eq_none (by rw [tab_len]; omega)]
  · refine ⟨h.same.put h.io1 h.io2 _, h.io1, h.io2, by rw [List.length_set]; exact h.len, mine_put_same hio, fun j hj => ?_, fun j j' hj hj' hne => ?_, fun j hj => ?_⟩
    · rw [List.length_set] at hj
      rw [hset j hj]
      split
      · exact ⟨hx0, hx1, hx2⟩
      · exact h.id j hj
    · rw [List.length_set] at hj hj'
      rw [hset j hj, hset j' hj']
      split <;> split
      · omega
      · exact Ne.symm (hx3 j' hj')
      · exact hx3 j hj
      · exact h.dist j j' hj hj' hne
    · rw [List.length_set] at hj
      rw [hset j hj]
      split
      · rename_i e
        subst e
        rw [updR_same, mine_put_ne (Ne.symm hx2)]; exact hm
      · rename_i e
        rw [updR_ne _ _ (Ne.symm e), mine_put_ne (Ne.symm (h.id j hj).2.2)]; exact h.row j hj
theorem RS.grow (h : RS H H1 io s n ids rows) {H2 : GHeap} (hS : Same H H2) (hl : H1.len ≤ H2.len) (ho : ∀ j, j < H1.len → H2.mine j = H1.mine j) : RS H H2 io s n ids rows :=
  ⟨hS, h.io1, Nat.lt_of_lt_of_le h.io2 hl, h.len, by rw [ho _ h.io2]; exact h.out, fun k hk => ⟨(h.id k hk).1, Nat.lt_of_lt_of_le (h.id k hk).2.1 hl, (h.id k hk).2.2⟩, h.dist, fun k hk => by rw [ho _ (h.id k hk).2.1]; exact h.row k hk⟩
theorem RS.put_other (h : RS H H1 io s n ids rows) {x : Nat} (hx0 : H.len ≤ x) (hx1 : x < H1.len) (hx2 : x ≠ io) (hx3 : ∀ j, j < ids.length → ids[j]! ≠ x) (o : GObj) : RS H (H1.put x o) io s n ids rows :=
  ⟨h.same.put hx0 hx1 o, h.io1, h.io2, h.len, by rw [mine_put_ne hx2]; exact h.out, h.id, h.dist, fun k hk => by rw [mine_put_ne (Ne.symm (hx3 k hk))]; exact h.row k hk⟩
end
set_option maxHeartbeats 4000000 in
theorem shortest_ok {H : GHeap} (hw : H.wf) {v : Value} {l : List Bd} (hl : GRd H 6 v l.length (Bds l)) {n : Nat} (hv : Valid n l) (hn1 : 1 ≤ n) (hn : n ≤ 16) (hll : l.length ≤ 16) :
    ∃ r H', gev G 31 [.int .i64 n, v] H = some (r, H') ∧ (r = .int .i64 (shortF n (l.map edge) 1) ∧ Same H H') := by
  refine gev_GW (f := 31) rfl fun Post hPost => ?_
  have hlim := hw.1
  have hsl := hl.isSl
  have hsm := fun s => postRows_sml n (l.map edge) s hv.csm
  have hrl := fun s => postRows_len n (l.map edge) s
  have hp0 : ∀ s, postRows n (l.map edge) s 0 = (List.replicate n far).set s 0 := fun s => rfl
  have hpS : ∀ s r, postRows n (l.map edge) s (r + 1) = (l.map edge).foldl (post1 (postRows n (l.map edge) s r)) (List.replicate n far) := fun s r => rfl
  simp only [frameOf, Nat.reduceAdd]
  repeat' (first | refine GW_seq ?_ | refine GW_line ?_ | refine Gw_nil ?_ | refine GN_seq ?_ | refine GN_blk ?_ | refine GW_block ?_ | refine GW_skip ?_ | refine GW_exit ?_ | refine GX_seq ?_ | refine GX_blk ?_ | refine GX_up rfl ?_ | refine GX_inv ?_ | refine GW_ret ?_ | refine GN_inv ?_ | refine GN_nil ?_ | refine GW_any rfl ?_ | refine Gp_nil ?_ | ((first | refine Gw_s fun K' hK' => ?_ | refine Gp_s fun K' hK' => ?_ | refine Gw_0 fun K' hK' => ?_ | intro K' hK'); (simp (disch := (first | (simp only [ints_length, List.length_set, List.length_cons, List.length_nil, List.length_replicate, len_put, len_add, lim_put, lim_add, flatV_int, flatV_bool, flatV_str, flatV_ptr, flatV_sl, List.all_cons, List.all_nil, Bool.and_self, List.size_toArray, Nat.reduceAdd, Nat.zero_add]; done) | omega | (simp only [ints_length, List.length_set, List.length_cons, List.length_nil, List.length_replicate, len_put, len_add, lim_put, lim_add, flatV_int, flatV_bool, flatV_str, flatV_ptr, flatV_sl, List.all_cons, List.all_nil, Bool.and_self, List.size_toArray, Nat.reduceAdd, Nat.zero_add] <;> omega) | fail)) only [↓gd_move, ↓gd_pick, ↓gd_alloc, ↓gd_load, ↓gd_bin, ↓gd_un, ↓gd_fa, ↓gd_ia, ↓gd_len, ↓gd_lenOf, ↓gd_store, ↓gd_ix, ↓gd_fld, ↓gd_cap, ↓gd_ext', ↓gd_conv, ↓gd_mk, ↓gd_app, ↓gd_copy, ↓gd_next, ↓gd_fn, ↓gd_min, ↓gd_max, ↓gd_slice, ↓gd_build, ↓gd_buildSl, ↓gd_box, ↓gd_nilc', ↓gd_rng, ↓gd_appM, ↓gM_move, ↓gM_pick, ↓gM_alloc, ↓gM_load, ↓gM_bin, ↓gM_un, ↓gM_fa, ↓gM_ia, ↓gM_len, ↓gM_lenOf, ↓gM_ix, ↓gM_fld, ↓gM_cap, ↓gM_ext, ↓gM_conv, ↓gM_mk, ↓gM_fn, ↓gM_min, ↓gM_max, ↓gM_slice, ↓gM_build, ↓gM_buildSl, ↓gM_box, ↓gM_nilc, ↓gM_rng, ↓gM_appM, ↓GArg.ev, ↓evs, ↓evOpt, ↓Tr.get_set, Option.bind_some, Option.map_some, add_none, gb_lss, gb_gtr, gb_leq, gb_geq, gb_add, gb_sub, gb_mul, gb_eql', gb_neq', gu_not, gu_neg, gfold_min1, gfold_max1, wr_i64, wr_i32, wr_u8, wr_u16, wr_u32, glen_sl, glen_str, gadd_ptr, gia_sl, gmake_sq, zeros_ints, zeros_sl, gld_1, gld_n, gst_1, gst_n, gset_ok, gsetn_all, rd_put_same, rd_put_ne, rd_add_eq, rd_add_ne, rdn_put_ne, rdn_add_ne, rdn_put_all, rdn_add_all, mine_put_same, mine_put_ne, mine_add_eq, mine_add_ne, len_put, len_add, lim_put, lim_add, ints_at, ints_set, ints_length, Option.map_map, List.getElem?_toArray, List.getElem?_cons_zero, List.getElem?_cons_succ, List.length_cons, List.length_nil, List.length_set, List.size_toArray, Int.toNat_natCast, Nat.mul_one, Nat.add_zero, Nat.zero_add, ite_true, ite_false, if_true, if_false, Bool.false_eq_true, ↓reduceIte, decide_true, decide_false, Bool.not_true, Bool.not_false, blk_sl, ofs_sl, Nat.reduceEqDiff, Nat.reduceAdd, Nat.reduceMul, reduceCtorEq, Int.reduceToNat, ↓evParts, fillL_1, fillL_0, List.replicate_zero, ints_nil, g31]; refine G1_go (hK' _ _ ?_); clear hK' K')) | ((first | refine Gw_dt fun A B C D hA hB hC hD => ?_ | refine Gw_df fun A B C D hA hB hC hD => ?_ | refine GW_cd fun A B C D hA hB hC hD => ?_); (simp only [↓Tr.get_set, Nat.reduceEqDiff, if_true, if_false, ↓reduceIte, g31]; first | (refine Gd_true (hA ?_); clear hA hB hC hD A B C D) | (refine Gd_false (hB ?_); clear hA hB hC hD A B C D) | (refine Gd_some (fun hc => hC ?_) (fun hc => hD ?_) <;> clear hA hB hC hD A B C D <;> (try simp only [decide_eq_true_eq, decide_eq_false_iff_not, Bool.not_eq_true', Bool.not_eq_false', Int.not_lt, Int.not_le, Bool.not_true, Bool.not_false, Bool.true_eq_false, Bool.false_eq_true, Decidable.not_not] at hc)))) | (refine GR.mk ?_; simp only [gresults, ↓Tr.get_set, Option.bind_some, Nat.reduceEqDiff, if_true, if_false, ↓reduceIte, gld_1, gld_n, g31]; refine ⟨_, rfl, ?_⟩; simp only [gone]))
  -- the first rows
  refine GW_loop (fun k fr H1 => ∃ (r : Nat) (ids : List Nat), r ≤ n ∧ k = n - r ∧ ids.length = r ∧ fr.get 0 = some (.int .i64 n) ∧ fr.get 1 = some (v) ∧ fr.get 5 = some (.slice (some ⟨H.len, 0, none⟩) n (n + 1)) ∧ fr.get 18 = some (.int .i64 n) ∧ fr.get 19 = some (.int .i64 r) ∧ RS H H1 H.len n n ids (fun k => postRows n (l.map edge) k 0)) ?_ n ?_
  case refine_2 =>
    refine ⟨0, [], by omega, by omega, rfl, ?_⟩
    simp only [↓Tr.get_set, Nat.reduceEqDiff, if_true, if_false, ↓reduceIte, Int.natCast_add, Int.cast_ofNat_Int, Int.natCast_zero, true_and, and_true, Option.some.injEq, Value.int.injEq]
    refine ⟨(Same.refl hw).add _, Nat.le_refl _, Nat.lt_succ_self _, by simp, ?_, by simp, by simp, by simp⟩
    rw [tab_nil]; exact mine_add_eq rfl hlim
  rintro k fr H1 ⟨r, ids, hr, rfl, hids, f0, f1, f5, f18, f19, hRS⟩ J hJ
  have hS1 := hRS.same
  have hlim1 : H1.lim ≤ H1.len := hS1.wf.1
  have hout := hRS.out
  have hio2 := hRS.io2
  have hset : r < n → gset (tab n ids n) r (.slice (some ⟨H1.len, 0, none⟩) n (n + 1)) = some (tab n (ids ++ [H1.len]) n) := fun h => by
    rw [gset_ok (by rw [tab_len]; exact h) flatV_sl, ← hids]
    exact congrArg some (tab_snoc (by omega))
  have hget : ∀ x, r < n → (tab n (ids ++ [x]) n)[r]? = some (.slice (some ⟨x, 0, none⟩) n (n + 1)) := fun x h => by
    rw [tab_get h (by simp; omega), ← hids, snoc_last]
  repeat' (first | refine GW_seq ?_ | refine GW_line ?_ | refine Gw_nil ?_ | refine GN_seq ?_ | refine GN_blk ?_ | refine GW_block ?_ | refine GW_skip ?_ | refine GW_exit ?_ | refine GX_seq ?_ | refine GX_blk ?_ | refine GX_up rfl ?_ | refine GX_inv ?_ | refine GW_ret ?_ | refine GN_inv ?_ | refine GN_nil ?_ | refine GW_any rfl ?_ | refine Gp_nil ?_ | ((first | refine Gw_s fun K' hK' => ?_ | refine Gp_s fun K' hK' => ?_ | refine Gw_0 fun K' hK' => ?_ | intro K' hK'); (simp (disch := (first | (simp only [ints_length, List.length_set, List.length_cons, List.length_nil, List.length_replicate, len_put, len_add, lim_put, lim_add, flatV_int, flatV_bool, flatV_str, flatV_ptr, flatV_sl, List.all_cons, List.all_nil, Bool.and_self, List.size_toArray, Nat.reduceAdd, Nat.zero_add]; done) | omega | (simp only [ints_length, List.length_set, List.length_cons, List.length_nil, List.length_replicate, len_put, len_add, lim_put, lim_add, flatV_int, flatV_bool, flatV_str, flatV_ptr, flatV_sl, List.all_cons, List.all_nil, Bool.and_self, List.size_toArray, Nat.reduceAdd, Nat.zero_add] <;> omega) | fail)) only [↓gd_move, ↓gd_pick, ↓gd_alloc, ↓gd_load, ↓gd_bin, ↓gd_un, ↓gd_fa, ↓gd_ia, ↓gd_len, ↓gd_lenOf, ↓gd_store, ↓gd_ix, ↓gd_fld, ↓gd_cap, ↓gd_ext', ↓gd_conv, ↓gd_mk, ↓gd_app, ↓gd_copy, ↓gd_next, ↓gd_fn, ↓gd_min, ↓gd_max, ↓gd_slice, ↓gd_build, ↓gd_buildSl, ↓gd_box, ↓gd_nilc', ↓gd_rng, ↓gd_appM, ↓gM_move, ↓gM_pick, ↓gM_alloc, ↓gM_load, ↓gM_bin, ↓gM_un, ↓gM_fa, ↓gM_ia, ↓gM_len, ↓gM_lenOf, ↓gM_ix, ↓gM_fld, ↓gM_cap, ↓gM_ext, ↓gM_conv, ↓gM_mk, ↓gM_fn, ↓gM_min, ↓gM_max, ↓gM_slice, ↓gM_build, ↓gM_buildSl, ↓gM_box, ↓gM_nilc, ↓gM_rng, ↓gM_appM, ↓GArg.ev, ↓evs, ↓evOpt, ↓Tr.get_set, Option.bind_some, Option.map_some, add_none, gb_lss, gb_gtr, gb_leq, gb_geq, gb_add, gb_sub, gb_mul, gb_eql', gb_neq', gu_not, gu_neg, gfold_min1, gfold_max1, wr_i64, wr_i32, wr_u8, wr_u16, wr_u32, glen_sl, glen_str, gadd_ptr, gia_sl, gmake_sq, zeros_ints, zeros_sl, gld_1, gld_n, gst_1, gst_n, gset_ok, gsetn_all, rd_put_same, rd_put_ne, rd_add_eq, rd_add_ne, rdn_put_ne, rdn_add_ne, rdn_put_all, rdn_add_all, mine_put_same, mine_put_ne, mine_add_eq, mine_add_ne, len_put, len_add, lim_put, lim_add, ints_at, ints_set, ints_length, Option.map_map, List.getElem?_toArray, List.getElem?_cons_zero, List.getElem?_cons_succ, List.length_cons, List.length_nil, List.length_set, List.size_toArray, Int.toNat_natCast, Nat.mul_one, Nat.add_zero, Nat.zero_add, ite_true, ite_false, if_true, if_false, Bool.false_eq_true, ↓reduceIte, decide_true, decide_false, Bool.not_true, Bool.not_false, blk_sl, ofs_sl, Nat.reduceEqDiff, Nat.reduceAdd, Nat.reduceMul, reduceCtorEq, Int.reduceToNat, ↓evParts, fillL_1, fillL_0, List.replicate_zero, ints_nil, g31, f0, f1, f5, f18, f19, hout, hset, hget]; refine G1_go (hK' _ _ ?_); clear hK' K')) | ((first | refine Gw_dt fun A B C D hA hB hC hD => ?_ | refine Gw_df fun A B C D hA hB hC hD => ?_ | refine GW_cd fun A B C D hA hB hC hD => ?_); (simp only [↓Tr.get_set, Nat.reduceEqDiff, if_true, if_false, ↓reduceIte, g31, f0, f1, f5, f18, f19, hout, hset, hget]; first | (refine Gd_true (hA ?_); clear hA hB hC hD A B C D) | (refine Gd_false (hB ?_); clear hA hB hC hD A B C D) | (refine Gd_some (fun hc => hC ?_) (fun hc => hD ?_) <;> clear hA hB hC hD A B C D <;> (try simp only [decide_eq_true_eq, decide_eq_false_iff_not, Bool.not_eq_true', Bool.not_eq_false', Int.not_lt, Int.not_le, Bool.not_true, Bool.not_false, Bool.true_eq_false, Bool.false_eq_true, Decidable.not_not] at hc)))) | (refine GR.mk ?_; simp only [gresults, ↓Tr.get_set, Option.bind_some, Nat.reduceEqDiff, if_true, if_false, ↓reduceIte, gld_1, gld_n, g31, f0, f1, f5, f18, f19, hout, hset, hget]; refine ⟨_, rfl, ?_⟩; simp only [gone]))
  case refine_1.refine_1 =>
    have hr1 : r < n := by omega
    have hRS2 := hRS.snoc (by omega) (List.replicate n 0)
    generalize (H1.add (some (.cells (ints .i64 (List.replicate n 0)) 1 true))).put H.len (.cells (tab n (ids ++ [H1.len]) n) 1 true) = H2 at hRS2 ⊢
    have hids2 : (ids ++ [H1.len]).length = r + 1 := by simp [hids]
    generalize hi2 : ids ++ [H1.len] = ids2 at *
    rw [hids] at hRS2
    refine GW_loop (fun k fr H1 => ∃ (j : Nat), j ≤ n ∧ k = n - j ∧ fr.get 0 = some (.int .i64 n) ∧ fr.get 1 = some (v) ∧ fr.get 5 = some (.slice (some ⟨H.len, 0, none⟩) n (n + 1)) ∧ fr.get 6 = some (.int .i64 r) ∧ fr.get 18 = some (.int .i64 n) ∧ fr.get 19 = some (.int .i64 r) ∧ fr.get 31 = some (.int .i64 n) ∧ fr.get 32 = some (.int .i64 j) ∧ RS H H1 H.len n n ids2 (updR (fun k => postRows n (l.map edge) k 0) r (fillFar j n))) ?_ n ?_
    case refine_2 =>
      refine ⟨0, by omega, by omega, ?_⟩
      simp only [↓Tr.get_set, Nat.reduceEqDiff, if_true, if_false, ↓reduceIte, Int.natCast_add, Int.cast_ofNat_Int, Int.natCast_zero, true_and, and_true, Option.some.injEq, Value.int.injEq, f0, f1, f5, f18, f19]
      rw [fillFar_zero]; exact hRS2
    clear hRS2 H2 hset hget
    rintro k fr H2 ⟨j, hj, rfl, f0, f1, f5, f6, f18, f19, f31, f32, hRS2⟩ J2 hJ2
    have hS2 := hRS2.same
    have hlim2 : H2.lim ≤ H2.len := hS2.wf.1
    have hrdo := fun o => mine_rd (o := o) hRS2.out
    have hrow := hRS2.row r (by omega)
    rw [updR_same] at hrow
    obtain ⟨hr_1, hr_2, hr_3⟩ := hRS2.id r (by omega)
    have htab : (tab n ids2 n)[r]? = some (.slice (some ⟨ids2[r]!, 0, none⟩) n (n + 1)) := tab_get hr1 (by omega)
    have hfl := fillFar_len hj
    repeat' (first | refine GW_seq ?_ | refine GW_line ?_ | refine Gw_nil ?_ | refine GN_seq ?_ | refine GN_blk ?_ | refine GW_block ?_ | refine GW_skip ?_ | refine GW_exit ?_ | refine GX_seq ?_ | refine GX_blk ?_ | refine GX_up rfl ?_ | refine GX_inv ?_ | refine GW_ret ?_ | refine GN_inv ?_ | refine GN_nil ?_ | refine GW_any rfl ?_ | refine Gp_nil ?_ | ((first | refine Gw_s fun K' hK' => ?_ | refine Gp_s fun K' hK' => ?_ | refine Gw_0 fun K' hK' => ?_ | intro K' hK'); (simp (disch := (first | (simp only [ints_length, List.length_set, List.length_cons, List.length_nil, List.length_replicate, len_put, len_add, lim_put, lim_add, flatV_int, flatV_bool, flatV_str, flatV_ptr, flatV_sl, List.all_cons, List.all_nil, Bool.and_self, List.size_toArray, Nat.reduceAdd, Nat.zero_add]; done) | omega | (simp only [ints_length, List.length_set, List.length_cons, List.length_nil, List.length_replicate, len_put, len_add, lim_put, lim_add, flatV_int, flatV_bool, flatV_str, flatV_ptr, flatV_sl, List.all_cons, List.all_nil, Bool.and_self, List.size_toArray, Nat.reduceAdd, Nat.zero_add] <;> omega) | fail)) only [↓gd_move, ↓gd_pick, ↓gd_alloc, ↓gd_load, ↓gd_bin, ↓gd_un, ↓gd_fa, ↓gd_ia, ↓gd_len, ↓gd_lenOf, ↓gd_store, ↓gd_ix, ↓gd_fld, ↓gd_cap, ↓gd_ext', ↓gd_conv, ↓gd_mk, ↓gd_app, ↓gd_copy, ↓gd_next, ↓gd_fn, ↓gd_min, ↓gd_max, ↓gd_slice, ↓gd_build, ↓gd_buildSl, ↓gd_box, ↓gd_nilc', ↓gd_rng, ↓gd_appM, ↓gM_move, ↓gM_pick, ↓gM_alloc, ↓gM_load, ↓gM_bin, ↓gM_un, ↓gM_fa, ↓gM_ia, ↓gM_len, ↓gM_lenOf, ↓gM_ix, ↓gM_fld, ↓gM_cap, ↓gM_ext, ↓gM_conv, ↓gM_mk, ↓gM_fn, ↓gM_min, ↓gM_max, ↓gM_slice, ↓gM_build, ↓gM_buildSl, ↓gM_box, ↓gM_nilc, ↓gM_rng, ↓gM_appM, ↓GArg.ev, ↓evs, ↓evOpt, ↓Tr.get_set, Option.bind_some, Option.map_some, add_none, gb_lss, gb_gtr, gb_leq, gb_geq, gb_add, gb_sub, gb_mul, gb_eql', gb_neq', gu_not, gu_neg, gfold_min1, gfold_max1, wr_i64, wr_i32, wr_u8, wr_u16, wr_u32, glen_sl, glen_str, gadd_ptr, gia_sl, gmake_sq, zeros_ints, zeros_sl, gld_1, gld_n, gst_1, gst_n, gset_ok, gsetn_all, rd_put_same, rd_put_ne, rd_add_eq, rd_add_ne, rdn_put_ne, rdn_add_ne, rdn_put_all, rdn_add_all, mine_put_same, mine_put_ne, mine_add_eq, mine_add_ne, len_put, len_add, lim_put, lim_add, ints_at, ints_set, ints_length, Option.map_map, List.getElem?_toArray, List.getElem?_cons_zero, List.getElem?_cons_succ, List.length_cons, List.length_nil, List.length_set, List.size_toArray, Int.toNat_natCast, Nat.mul_one, Nat.add_zero, Nat.zero_add, ite_true, ite_false, if_true, if_false, Bool.false_eq_true, ↓reduceIte, decide_true, decide_false, Bool.not_true, Bool.not_false, blk_sl, ofs_sl, Nat.reduceEqDiff, Nat.reduceAdd, Nat.reduceMul, reduceCtorEq, Int.reduceToNat, ↓evParts, fillL_1, fillL_0, List.replicate_zero, ints_nil, g31, f0, f1, f5, f6, f18, f19, f31, f32, hrdo, hrow, htab]; refine G1_go (hK' _ _ ?_); clear hK' K')) | ((first | refine Gw_dt fun A B C D hA hB hC hD => ?_ | refine Gw_df fun A B C D hA hB hC hD => ?_ | refine GW_cd fun A B C D hA hB hC hD => ?_); (simp only [↓Tr.get_set, Nat.reduceEqDiff, if_true, if_false, ↓reduceIte, g31, f0, f1, f5, f6, f18, f19, f31, f32, hrdo, hrow, htab]; first | (refine Gd_true (hA ?_); clear hA hB hC hD A B C D) | (refine Gd_false (hB ?_); clear hA hB hC hD A B C D) | (refine Gd_some (fun hc => hC ?_) (fun hc => hD ?_) <;> clear hA hB hC hD A B C D <;> (try simp only [decide_eq_true_eq, decide_eq_false_iff_not, Bool.not_eq_true', Bool.not_eq_false', Int.not_lt, Int.not_le, Bool.not_true, Bool.not_false, Bool.true_eq_false, Bool.false_eq_true, Decidable.not_not] at hc)))) | (refine GR.mk ?_; simp only [gresults, ↓Tr.get_set, Option.bind_some, Nat.reduceEqDiff, if_true, if_false, ↓reduceIte, gld_1, gld_n, g31, f0, f1, f5, f6, f18, f19, f31, f32, hrdo, hrow, htab]; refine ⟨_, rfl, ?_⟩; simp only [gone]))
    case refine_1 h1 =>
      refine hJ2 _ _ ⟨n - (j + 1), by omega, j + 1, by omega, rfl, ?_⟩
      simp only [↓Tr.get_set, Nat.reduceEqDiff, if_true, if_false, ↓reduceIte, Int.natCast_add, Int.cast_ofNat_Int, Int.natCast_zero, true_and, and_true, Option.some.injEq, Value.int.injEq, f0, f1, f5, f6, f18, f19, f31]
      have := hRS2.set_ (k := r) (by omega) (fillFar (j + 1) n)
      rw [← fillFar_next (by omega)] at this ⊢
      refine this.congr fun k hk => ?_
      unfold updR; split <;> rfl
    case refine_2 h1 =>
      obtain rfl : n = j := by omega
      refine hJ _ _ ⟨n - (r + 1), by omega, r + 1, ids2, by omega, rfl, hids2, ?_⟩
      simp only [↓Tr.get_set, Nat.reduceEqDiff, if_true, if_false, ↓reduceIte, Int.natCast_add, Int.cast_ofNat_Int, Int.natCast_zero, true_and, and_true, Option.some.injEq, Value.int.injEq, f0, f1, f5, f6, f18, f19, f31]
      have := hRS2.set_ (k := r) (by omega) ((fillFar n n).set r 0)
      refine this.congr fun k hk => ?_
      rw [fillFar_all]
      unfold updR
      split
      · rename_i e; rw [e]; rfl
      · rfl
  case refine_1.refine_2 =>
  obtain rfl : n = r := by omega
  refine GW_loop (fun k fr H1 => ∃ (z : Nat) (ids : List Nat), z ≤ n ∧ k = n - z ∧ ids.length = n ∧ fr.get 0 = some (.int .i64 n) ∧ fr.get 1 = some (v) ∧ fr.get 5 = some (.slice (some ⟨H.len, 0, none⟩) n (n + 1)) ∧ fr.get 8 = some (.int .i64 (z + 1 : Nat)) ∧ RS H H1 H.len n n ids (fun k => postRows n (l.map edge) k z) ∧ shortF n (l.map edge) 1 = shortF n (l.map edge) (z + 1)) ?_ n ?_
  case refine_2 =>
    refine ⟨0, ids, by omega, by omega, hids, ?_⟩
    simp only [↓Tr.get_set, Nat.reduceEqDiff, if_true, if_false, ↓reduceIte, Int.natCast_add, Int.cast_ofNat_Int, Int.natCast_zero, true_and, and_true, Option.some.injEq, Value.int.injEq, f0, f1, f5]
    exact ⟨by omega, hRS⟩
  clear hRS hS1 hlim1 hout hio2 hset hget hids f0 f1 f5 f18 f19 fr H1 ids
  rintro k fr H1 ⟨z, ids, hz, rfl, hids, f0, f1, f5, f8, hRS, hsh⟩ J1 hJ1
  have hS1 := hRS.same
  repeat' (first | refine GW_seq ?_ | refine GW_line ?_ | refine Gw_nil ?_ | refine GN_seq ?_ | refine GN_blk ?_ | refine GW_block ?_ | refine GW_skip ?_ | refine GW_exit ?_ | refine GX_seq ?_ | refine GX_blk ?_ | refine GX_up rfl ?_ | refine GX_inv ?_ | refine GW_ret ?_ | refine GN_inv ?_ | refine GN_nil ?_ | refine GW_any rfl ?_ | refine Gp_nil ?_ | ((first | refine Gw_s fun K' hK' => ?_ | refine Gp_s fun K' hK' => ?_ | refine Gw_0 fun K' hK' => ?_ | intro K' hK'); (simp (disch := (first | (simp only [ints_length, List.length_set, List.length_cons, List.length_nil, List.length_replicate, len_put, len_add, lim_put, lim_add, flatV_int, flatV_bool, flatV_str, flatV_ptr, flatV_sl, List.all_cons, List.all_nil, Bool.and_self, List.size_toArray, Nat.reduceAdd, Nat.zero_add]; done) | omega | (simp only [ints_length, List.length_set, List.length_cons, List.length_nil, List.length_replicate, len_put, len_add, lim_put, lim_add, flatV_int, flatV_bool, flatV_str, flatV_ptr, flatV_sl, List.all_cons, List.all_nil, Bool.and_self, List.size_toArray, Nat.reduceAdd, Nat.zero_add] <;> omega) | fail)) only [↓gd_move, ↓gd_pick, ↓gd_alloc, ↓gd_load, ↓gd_bin, ↓gd_un, ↓gd_fa, ↓gd_ia, ↓gd_len, ↓gd_lenOf, ↓gd_store, ↓gd_ix, ↓gd_fld, ↓gd_cap, ↓gd_ext', ↓gd_conv, ↓gd_mk, ↓gd_app, ↓gd_copy, ↓gd_next, ↓gd_fn, ↓gd_min, ↓gd_max, ↓gd_slice, ↓gd_build, ↓gd_buildSl, ↓gd_box, ↓gd_nilc', ↓gd_rng, ↓gd_appM, ↓gM_move, ↓gM_pick, ↓gM_alloc, ↓gM_load, ↓gM_bin, ↓gM_un, ↓gM_fa, ↓gM_ia, ↓gM_len, ↓gM_lenOf, ↓gM_ix, ↓gM_fld, ↓gM_cap, ↓gM_ext, ↓gM_conv, ↓gM_mk, ↓gM_fn, ↓gM_min, ↓gM_max, ↓gM_slice, ↓gM_build, ↓gM_buildSl, ↓gM_box, ↓gM_nilc, ↓gM_rng, ↓gM_appM, ↓GArg.ev, ↓evs, ↓evOpt, ↓Tr.get_set, Option.bind_some, Option.map_some, add_none, gb_lss, gb_gtr, gb_leq, gb_geq, gb_add, gb_sub, gb_mul, gb_eql', gb_neq', gu_not, gu_neg, gfold_min1, gfold_max1, wr_i64, wr_i32, wr_u8, wr_u16, wr_u32, glen_sl, glen_str, gadd_ptr, gia_sl, gmake_sq, zeros_ints, zeros_sl, gld_1, gld_n, gst_1, gst_n, gset_ok, gsetn_all, rd_put_same, rd_put_ne, rd_add_eq, rd_add_ne, rdn_put_ne, rdn_add_ne, rdn_put_all, rdn_add_all, mine_put_same, mine_put_ne, mine_add_eq, mine_add_ne, len_put, len_add, lim_put, lim_add, ints_at, ints_set, ints_length, Option.map_map, List.getElem?_toArray, List.getElem?_cons_zero, List.getElem?_cons_succ, List.length_cons, List.length_nil, List.length_set, List.size_toArray, Int.toNat_natCast, Nat.mul_one, Nat.add_zero, Nat.zero_add, ite_true, ite_false, if_true, if_false, Bool.false_eq_true, ↓reduceIte, decide_true, decide_false, Bool.not_true, Bool.not_false, blk_sl, ofs_sl, Nat.reduceEqDiff, Nat.reduceAdd, Nat.reduceMul, reduceCtorEq, Int.reduceToNat, ↓evParts, fillL_1, fillL_0, List.replicate_zero, ints_nil, g31, f0, f1, f5, f8]; refine G1_go (hK' _ _ ?_); clear hK' K')) | ((first | refine Gw_dt fun A B C D hA hB hC hD => ?_ | refine Gw_df fun A B C D hA hB hC hD => ?_ | refine GW_cd fun A B C D hA hB hC hD => ?_); (simp only [↓Tr.get_set, Nat.reduceEqDiff, if_true, if_false, ↓reduceIte, g31, f0, f1, f5, f8]; first | (refine Gd_true (hA ?_); clear hA hB hC hD A B C D) | (refine Gd_false (hB ?_); clear hA hB hC hD A B C D) | (refine Gd_some (fun hc => hC ?_) (fun hc => hD ?_) <;> clear hA hB hC hD A B C D <;> (try simp only [decide_eq_true_eq, decide_eq_false_iff_not, Bool.not_eq_true', Bool.not_eq_false', Int.not_lt, Int.not_le, Bool.not_true, Bool.not_false, Bool.true_eq_false, Bool.false_eq_true, Decidable.not_not] at hc)))) | (refine GR.mk ?_; simp only [gresults, ↓Tr.get_set, Option.bind_some, Nat.reduceEqDiff, if_true, if_false, ↓reduceIte, gld_1, gld_n, g31, f0, f1, f5, f8]; refine ⟨_, rfl, ?_⟩; simp only [gone]))
  case refine_1.refine_2 =>
    refine hPost _ _ ⟨?_, hS1⟩
    rw [hsh, short_end (by omega)]; rfl
  case refine_1.refine_1 =>
  have hzn : z < n := by omega
  -- the rows, one after the other
  refine GW_loop (fun k fr H1 => ∃ (s : Nat) (ids : List Nat), s ≤ n ∧ k = n - s ∧ ids.length = n ∧ fr.get 0 = some (.int .i64 n) ∧ fr.get 1 = some (v) ∧ fr.get 5 = some (.slice (some ⟨H.len, 0, none⟩) n (n + 1)) ∧ fr.get 8 = some (.int .i64 (z + 1 : Nat)) ∧ fr.get 54 = some (.slice (some ⟨H.len, 0, none⟩) n (n + 1)) ∧ fr.get 55 = some (.int .i64 n) ∧ fr.get 56 = some (.int .i64 s) ∧
    RS H H1 H.len n n ids (fun k => if k < s then postRows n (l.map edge) k (z + 1) else postRows n (l.map edge) k z) ∧ ∀ k, k < s → negAt n (l.map edge) (z + 1) k = false) ?_ n ?_
  case refine_2 =>
    refine ⟨0, ids, by omega, by omega, hids, ?_⟩
    simp only [↓Tr.get_set, Nat.reduceEqDiff, if_true, if_false, ↓reduceIte, Int.natCast_add, Int.cast_ofNat_Int, Int.natCast_zero, true_and, and_true, Option.some.injEq, Value.int.injEq, f0, f1, f5, f8]
    exact ⟨hRS.congr fun k hk => by rw [if_neg (by omega)], fun k hk => absurd hk (by omega)⟩
  clear hRS hS1 hids f0 f1 f5 f8 fr H1 ids
  rintro k fr H1 ⟨s, ids, hs, rfl, hids, f0, f1, f5, f8, f54, f55, f56, hRS, hng⟩ J2 hJ2
  have hS1 := hRS.same
  have hlim1 : H1.lim ≤ H1.len := hS1.wf.1
  have hio2 := hRS.io2
  have hrdo := fun o => mine_rd (o := o) hRS.out
  have htab := fun h : s < n => tab_get (s := n) (ids := ids) (n := n) (k := s) h (by omega)
  repeat' (first | refine GW_seq ?_ | refine GW_line ?_ | refine Gw_nil ?_ | refine GN_seq ?_ | refine GN_blk ?_ | refine GW_block ?_ | refine GW_skip ?_ | refine GW_exit ?_ | refine GX_seq ?_ | refine GX_blk ?_ | refine GX_up rfl ?_ | refine GX_inv ?_ | refine GW_ret ?_ | refine GN_inv ?_ | refine GN_nil ?_ | refine GW_any rfl ?_ | refine Gp_nil ?_ | ((first | refine Gw_s fun K' hK' => ?_ | refine Gp_s fun K' hK' => ?_ | refine Gw_0 fun K' hK' => ?_ | intro K' hK'); (simp (disch := (first | (simp only [ints_length, List.length_set, List.length_cons, List.length_nil, List.length_replicate, len_put, len_add, lim_put, lim_add, flatV_int, flatV_bool, flatV_str, flatV_ptr, flatV_sl, List.all_cons, List.all_nil, Bool.and_self, List.size_toArray, Nat.reduceAdd, Nat.zero_add]; done) | omega | (simp only [ints_length, List.length_set, List.length_cons, List.length_nil, List.length_replicate, len_put, len_add, lim_put, lim_add, flatV_int, flatV_bool, flatV_str, flatV_ptr, flatV_sl, List.all_cons, List.all_nil, Bool.and_self, List.size_toArray, Nat.reduceAdd, Nat.zero_add] <;> omega) | fail)) only [↓gd_move, ↓gd_pick, ↓gd_alloc, ↓gd_load, ↓gd_bin, ↓gd_un, ↓gd_fa, ↓gd_ia, ↓gd_len, ↓gd_lenOf, ↓gd_store, ↓gd_ix, ↓gd_fld, ↓gd_cap, ↓gd_ext', ↓gd_conv, ↓gd_mk, ↓gd_app, ↓gd_copy, ↓gd_next, ↓gd_fn, ↓gd_min, ↓gd_max, ↓gd_slice, ↓gd_build, ↓gd_buildSl, ↓gd_box, ↓gd_nilc', ↓gd_rng, ↓gd_appM, ↓gM_move, ↓gM_pick, ↓gM_alloc, ↓gM_load, ↓gM_bin, ↓gM_un, ↓gM_fa, ↓gM_ia, ↓gM_len, ↓gM_lenOf, ↓gM_ix, ↓gM_fld, ↓gM_cap, ↓gM_ext, ↓gM_conv, ↓gM_mk, ↓gM_fn, ↓gM_min, ↓gM_max, ↓gM_slice, ↓gM_build, ↓gM_buildSl, ↓gM_box, ↓gM_nilc, ↓gM_rng, ↓gM_appM, ↓GArg.ev, ↓evs, ↓evOpt, ↓Tr.get_set, Option.bind_some, Option.map_some, add_none, gb_lss, gb_gtr, gb_leq, gb_geq, gb_add, gb_sub, gb_mul, gb_eql', gb_neq', gu_not, gu_neg, gfold_min1, gfold_max1, wr_i64, wr_i32, wr_u8, wr_u16, wr_u32, glen_sl, glen_str, gadd_ptr, gia_sl, gmake_sq, zeros_ints, zeros_sl, gld_1, gld_n, gst_1, gst_n, gset_ok, gsetn_all, rd_put_same, rd_put_ne, rd_add_eq, rd_add_ne, rdn_put_ne, rdn_add_ne, rdn_put_all, rdn_add_all, mine_put_same, mine_put_ne, mine_add_eq, mine_add_ne, len_put, len_add, lim_put, lim_add, ints_at, ints_set, ints_length, Option.map_map, List.getElem?_toArray, List.getElem?_cons_zero, List.getElem?_cons_succ, List.length_cons, List.length_nil, List.length_set, List.size_toArray, Int.toNat_natCast, Nat.mul_one, Nat.add_zero, Nat.zero_add, ite_true, ite_false, if_true, if_false, Bool.false_eq_true, ↓reduceIte, decide_true, decide_false, Bool.not_true, Bool.not_false, blk_sl, ofs_sl, Nat.reduceEqDiff, Nat.reduceAdd, Nat.reduceMul, reduceCtorEq, Int.reduceToNat, ↓evParts, fillL_1, fillL_0, List.replicate_zero, ints_nil, g31, f0, f1, f5, f8, f54, f55, f56, hrdo, htab]; refine G1_go (hK' _ _ ?_); clear hK' K')) | ((first | refine Gw_dt fun A B C D hA hB hC hD => ?_ | refine Gw_df fun A B C D hA hB hC hD => ?_ | refine GW_cd fun A B C D hA hB hC hD => ?_); (simp only [↓Tr.get_set, Nat.reduceEqDiff, if_true, if_false, ↓reduceIte, g31, f0, f1, f5, f8, f54, f55, f56, hrdo, htab]; first | (refine Gd_true (hA ?_); clear hA hB hC hD A B C D) | (refine Gd_false (hB ?_); clear hA hB hC hD A B C D) | (refine Gd_some (fun hc => hC ?_) (fun hc => hD ?_) <;> clear hA hB hC hD A B C D <;> (try simp only [decide_eq_true_eq, decide_eq_false_iff_not, Bool.not_eq_true', Bool.not_eq_false', Int.not_lt, Int.not_le, Bool.not_true, Bool.not_false, Bool.true_eq_false, Bool.false_eq_true, Decidable.not_not] at hc)))) | (refine GR.mk ?_; simp only [gresults, ↓Tr.get_set, Option.bind_some, Nat.reduceEqDiff, if_true, if_false, ↓reduceIte, gld_1, gld_n, g31, f0, f1, f5, f8, f54, f55, f56, hrdo, htab]; refine ⟨_, rfl, ?_⟩; simp only [gone]))
  case refine_1.refine_2 h1 =>
    obtain rfl : n = s := by omega
    refine hJ1 _ _ ⟨n - (z + 1), by omega, z + 1, ids, by omega, rfl, hids, ?_⟩
    simp only [↓Tr.get_set, Nat.reduceEqDiff, if_true, if_false, ↓reduceIte, Int.natCast_add, Int.cast_ofNat_Int, Int.natCast_zero, true_and, and_true, Option.some.injEq, Value.int.injEq, f0, f1, f5]
    refine ⟨hRS.congr fun k hk => by rw [if_pos (by omega)], ?_⟩
    rw [hsh, short_step (by omega), if_neg]
    intro h
    obtain ⟨k, hk1, hk2⟩ := List.any_eq_true.1 h
    rw [hng k (by simpa using hk1)] at hk2
    cases hk2
  case refine_1.refine_1 h1 =>
  have hsn : s < n := by omega
  have hRS2 := hRS.grow (hS1.add (.cells (ints .i64 (List.replicate n 0)) 1 true)) (Nat.le_succ _) fun j hj => mine_add_ne (by omega)
  have hcur2 : (H1.add (some (.cells (ints .i64 (List.replicate n 0)) 1 true))).mine H1.len = some (ints .i64 (List.replicate n 0), 1) := mine_add_eq rfl hlim1
  have hidx : ∀ j, j < ids.length → ids[j]! < H1.len := fun j hj => (hRS.id j hj).2.1
  have hx0 : H.len ≤ H1.len := hS1.len
  generalize H1.add (some (.cells (ints .i64 (List.replicate n 0)) 1 true)) = H2 at hRS2 hcur2 ⊢
  generalize H1.len = ix at hRS2 hcur2 hidx hio2 hx0 ⊢
  generalize hrw : (fun k => if k < s then postRows n (l.map edge) k (z + 1) else postRows n (l.map edge) k z) = rows at *
  have hrows : rows s = postRows n (l.map edge) s z := by rw [← hrw]; exact if_neg (by omega)
  refine GW_loop (fun k fr H1 => ∃ (j : Nat), j ≤ n ∧ k = n - j ∧ fr.get 0 = some (.int .i64 n) ∧ fr.get 1 = some (v) ∧ fr.get 5 = some (.slice (some ⟨H.len, 0, none⟩) n (n + 1)) ∧ fr.get 8 = some (.int .i64 (z + 1 : Nat)) ∧ fr.get 9 = some (.int .i64 s) ∧ fr.get 10 = some (.slice (some ⟨ids[s]!, 0, none⟩) n (n + 1)) ∧ fr.get 11 = some (.slice (some ⟨ix, 0, none⟩) n (n + 1)) ∧ fr.get 54 = some (.slice (some ⟨H.len, 0, none⟩) n (n + 1)) ∧ fr.get 55 = some (.int .i64 n) ∧ fr.get 56 = some (.int .i64 s) ∧ fr.get 64 = some (.int .i64 n) ∧ fr.get 65 = some (.int .i64 j) ∧ RS H H1 H.len n n ids rows ∧ H1.mine ix = some (ints .i64 (fillFar j n), 1)) ?_ n ?_
  case refine_2 =>
    refine ⟨0, by omega, by omega, ?_⟩
    simp only [↓Tr.get_set, Nat.reduceEqDiff, if_true, if_false, ↓reduceIte, Int.natCast_add, Int.cast_ofNat_Int, Int.natCast_zero, true_and, and_true, Option.some.injEq, Value.int.injEq, f0, f1, f5, f8, f54, f55, f56]
    rw [fillFar_zero]; exact ⟨hRS2, hcur2⟩
  clear hRS2 hcur2 H2 hRS hS1 hlim1 hrdo htab f0 f1 f5 f8 f54 f55 f56 fr H1
  rintro k fr H2 ⟨j, hj, rfl, f0, f1, f5, f8, f9, f10, f11, f54, f55, f56, f64, f65, hRS2, hcur⟩ J3 hJ3
  have hS2 := hRS2.same
  have hlim2 : H2.lim ≤ H2.len := hS2.wf.1
  have hixl := mine_lt hS2.wf hcur
  have hfl := fillFar_len hj
  repeat' (first | refine GW_seq ?_ | refine GW_line ?_ | refine Gw_nil ?_ | refine GN_seq ?_ | refine GN_blk ?_ | refine GW_block ?_ | refine GW_skip ?_ | refine GW_exit ?_ | refine GX_seq ?_ | refine GX_blk ?_ | refine GX_up rfl ?_ | refine GX_inv ?_ | refine GW_ret ?_ | refine GN_inv ?_ | refine GN_nil ?_ | refine GW_any rfl ?_ | refine Gp_nil ?_ | ((first | refine Gw_s fun K' hK' => ?_ | refine Gp_s fun K' hK' => ?_ | refine Gw_0 fun K' hK' => ?_ | intro K' hK'); (simp (disch := (first | (simp only [ints_length, List.length_set, List.length_cons, List.length_nil, List.length_replicate, len_put, len_add, lim_put, lim_add, flatV_int, flatV_bool, flatV_str, flatV_ptr, flatV_sl, List.all_cons, List.all_nil, Bool.and_self, List.size_toArray, Nat.reduceAdd, Nat.zero_add]; done) | omega | (simp only [ints_length, List.length_set, List.length_cons, List.length_nil, List.length_replicate, len_put, len_add, lim_put, lim_add, flatV_int, flatV_bool, flatV_str, flatV_ptr, flatV_sl, List.all_cons, List.all_nil, Bool.and_self, List.size_toArray, Nat.reduceAdd, Nat.zero_add] <;> omega) | fail)) only [↓gd_move, ↓gd_pick, ↓gd_alloc, ↓gd_load, ↓gd_bin, ↓gd_un, ↓gd_fa, ↓gd_ia, ↓gd_len, ↓gd_lenOf, ↓gd_store, ↓gd_ix, ↓gd_fld, ↓gd_cap, ↓gd_ext', ↓gd_conv, ↓gd_mk, ↓gd_app, ↓gd_copy, ↓gd_next, ↓gd_fn, ↓gd_min, ↓gd_max, ↓gd_slice, ↓gd_build, ↓gd_buildSl, ↓gd_box, ↓gd_nilc', ↓gd_rng, ↓gd_appM, ↓gM_move, ↓gM_pick, ↓gM_alloc, ↓gM_load, ↓gM_bin, ↓gM_un, ↓gM_fa, ↓gM_ia, ↓gM_len, ↓gM_lenOf, ↓gM_ix, ↓gM_fld, ↓gM_cap, ↓gM_ext, ↓gM_conv, ↓gM_mk, ↓gM_fn, ↓gM_min, ↓gM_max, ↓gM_slice, ↓gM_build, ↓gM_buildSl, ↓gM_box, ↓gM_nilc, ↓gM_rng, ↓gM_appM, ↓GArg.ev, ↓evs, ↓evOpt, ↓Tr.get_set, Option.bind_some, Option.map_some, add_none, gb_lss, gb_gtr, gb_leq, gb_geq, gb_add, gb_sub, gb_mul, gb_eql', gb_neq', gu_not, gu_neg, gfold_min1, gfold_max1, wr_i64, wr_i32, wr_u8, wr_u16, wr_u32, glen_sl, glen_str, gadd_ptr, gia_sl, gmake_sq, zeros_ints, zeros_sl, gld_1, gld_n, gst_1, gst_n, gset_ok, gsetn_all, rd_put_same, rd_put_ne, rd_add_eq, rd_add_ne, rdn_put_ne, rdn_add_ne, rdn_put_all, rdn_add_all, mine_put_same, mine_put_ne, mine_add_eq, mine_add_ne, len_put, len_add, lim_put, lim_add, ints_at, ints_set, ints_length, Option.map_map, List.getElem?_toArray, List.getElem?_cons_zero, List.getElem?_cons_succ, List.length_cons, List.length_nil, List.length_set, List.size_toArray, Int.toNat_natCast, Nat.mul_one, Nat.add_zero, Nat.zero_add, ite_true, ite_false, if_true, if_false, Bool.false_eq_true, ↓reduceIte, decide_true, decide_false, Bool.not_true, Bool.not_false, blk_sl, ofs_sl, Nat.reduceEqDiff, Nat.reduceAdd, Nat.reduceMul, reduceCtorEq, Int.reduceToNat, ↓evParts, fillL_1, fillL_0, List.replicate_zero, ints_nil, g31, f0, f1, f5, f8, f9, f10, f11, f54, f55, f56, f64, f65, hcur, hsl.len]; refine G1_go (hK' _ _ ?_); clear hK' K')) | ((first | refine Gw_dt fun A B C D hA hB hC hD => ?_ | refine Gw_df fun A B C D hA hB hC hD => ?_ | refine GW_cd fun A B C D hA hB hC hD => ?_); (simp only [↓Tr.get_set, Nat.reduceEqDiff, if_true, if_false, ↓reduceIte, g31, f0, f1, f5, f8, f9, f10, f11, f54, f55, f56, f64, f65, hcur, hsl.len]; first | (refine Gd_true (hA ?_); clear hA hB hC hD A B C D) | (refine Gd_false (hB ?_); clear hA hB hC hD A B C D) | (refine Gd_some (fun hc => hC ?_) (fun hc => hD ?_) <;> clear hA hB hC hD A B C D <;> (try simp only [decide_eq_true_eq, decide_eq_false_iff_not, Bool.not_eq_true', Bool.not_eq_false', Int.not_lt, Int.not_le, Bool.not_true, Bool.not_false, Bool.true_eq_false, Bool.false_eq_true, Decidable.not_not] at hc)))) | (refine GR.mk ?_; simp only [gresults, ↓Tr.get_set, Option.bind_some, Nat.reduceEqDiff, if_true, if_false, ↓reduceIte, gld_1, gld_n, g31, f0, f1, f5, f8, f9, f10, f11, f54, f55, f56, f64, f65, hcur, hsl.len]; refine ⟨_, rfl, ?_⟩; simp only [gone]))
  case refine_1 h2 =>
    refine hJ3 _ _ ⟨n - (j + 1), by omega, j + 1, by omega, rfl, ?_⟩
    simp only [↓Tr.get_set, Nat.reduceEqDiff, if_true, if_false, ↓reduceIte, Int.natCast_add, Int.cast_ofNat_Int, Int.natCast_zero, true_and, and_true, Option.some.injEq, Value.int.injEq, f0, f1, f5, f8, f9, f10, f11, f54, f55, f56, f64]
    rw [← fillFar_next (by omega)]
    exact ⟨hRS2.put_other hx0 hixl (by omega) (fun j hj => Nat.ne_of_lt (hidx j hj)) _, mine_put_same (mine_obj hcur).1⟩
  case refine_2 h2 =>
  obtain rfl : n = j := by omega
  rw [fillFar_all] at hcur
  refine GW_loop (fun k fr H1 => ∃ (i : Nat), i ≤ l.length ∧ k = l.length - i ∧ fr.get 0 = some (.int .i64 n) ∧ fr.get 1 = some (v) ∧ fr.get 5 = some (.slice (some ⟨H.len, 0, none⟩) n (n + 1)) ∧ fr.get 8 = some (.int .i64 (z + 1 : Nat)) ∧ fr.get 9 = some (.int .i64 s) ∧ fr.get 10 = some (.slice (some ⟨ids[s]!, 0, none⟩) n (n + 1)) ∧ fr.get 11 = some (.slice (some ⟨ix, 0, none⟩) n (n + 1)) ∧ fr.get 54 = some (.slice (some ⟨H.len, 0, none⟩) n (n + 1)) ∧ fr.get 55 = some (.int .i64 n) ∧ fr.get 56 = some (.int .i64 s) ∧ fr.get 72 = some (v) ∧ fr.get 73 = some (.int .i64 l.length) ∧ fr.get 74 = some (.int .i64 i) ∧
    RS H H1 H.len n n ids rows ∧ H1.mine ix = some (ints .i64 (((l.take i).map edge).foldl (post1 (rows s)) (List.replicate n far)), 1)) ?_ l.length ?_
  case refine_2 =>
    refine ⟨0, by omega, by omega, ?_⟩
    simp only [↓Tr.get_set, Nat.reduceEqDiff, if_true, if_false, ↓reduceIte, Int.natCast_add, Int.cast_ofNat_Int, Int.natCast_zero, true_and, and_true, Option.some.injEq, Value.int.injEq, f0, f1, f5, f8, f9, f10, f11, f54, f55, f56]
    exact ⟨hRS2, hcur⟩
  clear hRS2 hcur hS2 hlim2 hixl hfl f0 f1 f5 f8 f9 f10 f11 f54 f55 f56 f64 f65 fr H2
  rintro k fr H3 ⟨i, hi, rfl, f0, f1, f5, f8, f9, f10, f11, f54, f55, f56, f72, f73, f74, hRS3, hcur3⟩ J4 hJ4
  have hS3 := hRS3.same
  have hwl := hS3.wf.1
  have hio3 := hRS3.io2
  have hixl := mine_lt hS3.wf hcur3
  have hrs := hRS3.row s (by omega)
  have hrds := fun o => mine_rd (o := o) hrs
  have hrdx := fun o => mine_rd (o := o) hcur3
  have hids3 := hRS3.id s (by omega)
  have hbd : ∀ k : Nat, k < l.length → H3.rdn (blk v) (ofs v + k * 6) 6 = some (bdv l[k]!) := fun k hk => by
    rw [hS3.rdn (hl.lt (by omega))]; exact hl.bd hk
  have hbl := hl.lt
  have hvb : i < l.length → 0 ≤ l[i]!.I ∧ l[i]!.I < n ∧ 0 ≤ l[i]!.J ∧ l[i]!.J < n ∧ -1099511627776 ≤ l[i]!.C ∧ l[i]!.C ≤ 1099511627776 := fun h => by
    rw [getElem!_pos l i h]; exact hv _ (List.getElem_mem h)
  have hsm' : Sml z (rows s) := by rw [hrows]; exact hsm s z
  have hp1 := fun h : i < l.length => sml_at hsm' (by omega) l[i]!.I.toNat
  have hpl : (rows s).length = n := by rw [hrows]; exact hrl s z
  generalize hd0 : ((l.take i).map edge).foldl (post1 (rows s)) (List.replicate n far) = d0 at *
  have hdl : d0.length = n := by rw [← hd0, foldl_post_len]; simp
  have hds : Sml (z + 1) d0 := by
    rw [← hd0]
    exact foldl_post_sml hsm' _ _ (fun e he => hv.csm e (by obtain ⟨b, hb, rfl⟩ := List.mem_map.1 he; exact List.mem_map.2 ⟨b, List.mem_of_mem_take hb, rfl⟩)) (Sml.far_ _ n)
  have hd1 := fun h : i < l.length => sml_at hds (by omega) l[i]!.J.toNat
  have hsw := hRS3.swap (k := s) (x := ix) (y := d0) (by omega) hx0 hixl (by omega) (fun j hj => Nat.ne_of_lt (hidx j hj)) hcur3
  have hout3 := hRS3.out
  generalize hpr : rows s = prev at *
  repeat' (first | refine GW_seq ?_ | refine GW_line ?_ | refine Gw_nil ?_ | refine GN_seq ?_ | refine GN_blk ?_ | refine GW_block ?_ | refine GW_skip ?_ | refine GW_exit ?_ | refine GX_seq ?_ | refine GX_blk ?_ | refine GX_up rfl ?_ | refine GX_inv ?_ | refine GW_ret ?_ | refine GN_inv ?_ | refine GN_nil ?_ | refine GW_any rfl ?_ | refine Gp_nil ?_ | ((first | refine Gw_s fun K' hK' => ?_ | refine Gp_s fun K' hK' => ?_ | refine Gw_0 fun K' hK' => ?_ | intro K' hK'); (simp (disch := (first | (simp only [ints_length, List.length_set, List.length_cons, List.length_nil, List.length_replicate, len_put, len_add, lim_put, lim_add, flatV_int, flatV_bool, flatV_str, flatV_ptr, flatV_sl, List.all_cons, List.all_nil, Bool.and_self, List.size_toArray, Nat.reduceAdd, Nat.zero_add]; done) | omega | (simp only [ints_length, List.length_set, List.length_cons, List.length_nil, List.length_replicate, len_put, len_add, lim_put, lim_add, flatV_int, flatV_bool, flatV_str, flatV_ptr, flatV_sl, List.all_cons, List.all_nil, Bool.and_self, List.size_toArray, Nat.reduceAdd, Nat.zero_add] <;> omega) | fail)) only [↓gd_move, ↓gd_pick, ↓gd_alloc, ↓gd_load, ↓gd_bin, ↓gd_un, ↓gd_fa, ↓gd_ia, ↓gd_len, ↓gd_lenOf, ↓gd_store, ↓gd_ix, ↓gd_fld, ↓gd_cap, ↓gd_ext', ↓gd_conv, ↓gd_mk, ↓gd_app, ↓gd_copy, ↓gd_next, ↓gd_fn, ↓gd_min, ↓gd_max, ↓gd_slice, ↓gd_build, ↓gd_buildSl, ↓gd_box, ↓gd_nilc', ↓gd_rng, ↓gd_appM, ↓gM_move, ↓gM_pick, ↓gM_alloc, ↓gM_load, ↓gM_bin, ↓gM_un, ↓gM_fa, ↓gM_ia, ↓gM_len, ↓gM_lenOf, ↓gM_ix, ↓gM_fld, ↓gM_cap, ↓gM_ext, ↓gM_conv, ↓gM_mk, ↓gM_fn, ↓gM_min, ↓gM_max, ↓gM_slice, ↓gM_build, ↓gM_buildSl, ↓gM_box, ↓gM_nilc, ↓gM_rng, ↓gM_appM, ↓GArg.ev, ↓evs, ↓evOpt, ↓Tr.get_set, Option.bind_some, Option.map_some, add_none, gb_lss, gb_gtr, gb_leq, gb_geq, gb_add, gb_sub, gb_mul, gb_eql', gb_neq', gu_not, gu_neg, gfold_min1, gfold_max1, wr_i64, wr_i32, wr_u8, wr_u16, wr_u32, glen_sl, glen_str, gadd_ptr, gia_sl, gmake_sq, zeros_ints, zeros_sl, gld_1, gld_n, gst_1, gst_n, gset_ok, gsetn_all, rd_put_same, rd_put_ne, rd_add_eq, rd_add_ne, rdn_put_ne, rdn_add_ne, rdn_put_all, rdn_add_all, mine_put_same, mine_put_ne, mine_add_eq, mine_add_ne, len_put, len_add, lim_put, lim_add, ints_at, ints_set, ints_length, Option.map_map, List.getElem?_toArray, List.getElem?_cons_zero, List.getElem?_cons_succ, List.length_cons, List.length_nil, List.length_set, List.size_toArray, Int.toNat_natCast, Nat.mul_one, Nat.add_zero, Nat.zero_add, ite_true, ite_false, if_true, if_false, Bool.false_eq_true, ↓reduceIte, decide_true, decide_false, Bool.not_true, Bool.not_false, blk_sl, ofs_sl, Nat.reduceEqDiff, Nat.reduceAdd, Nat.reduceMul, reduceCtorEq, Int.reduceToNat, ↓evParts, fillL_1, fillL_0, List.replicate_zero, ints_nil, g31, f0, f1, f5, f8, f9, f10, f11, f54, f55, f56, f72, f73, f74, hrds, hrdx, hcur3, hsl.ia, hbd, bdv, hout3, hsw.1]; refine G1_go (hK' _ _ ?_); clear hK' K')) | ((first | refine Gw_dt fun A B C D hA hB hC hD => ?_ | refine Gw_df fun A B C D hA hB hC hD => ?_ | refine GW_cd fun A B C D hA hB hC hD => ?_); (simp only [↓Tr.get_set, Nat.reduceEqDiff, if_true, if_false, ↓reduceIte, g31, f0, f1, f5, f8, f9, f10, f11, f54, f55, f56, f72, f73, f74, hrds, hrdx, hcur3, hsl.ia, hbd, bdv, hout3, hsw.1]; first | (refine Gd_true (hA ?_); clear hA hB hC hD A B C D) | (refine Gd_false (hB ?_); clear hA hB hC hD A B C D) | (refine Gd_some (fun hc => hC ?_) (fun hc => hD ?_) <;> clear hA hB hC hD A B C D <;> (try simp only [decide_eq_true_eq, decide_eq_false_iff_not, Bool.not_eq_true', Bool.not_eq_false', Int.not_lt, Int.not_le, Bool.not_true, Bool.not_false, Bool.true_eq_false, Bool.false_eq_true, Decidable.not_not] at hc)))) | (refine GR.mk ?_; simp only [gresults, ↓Tr.get_set, Option.bind_some, Nat.reduceEqDiff, if_true, if_false, ↓reduceIte, gld_1, gld_n, g31, f0, f1, f5, f8, f9, f10, f11, f54, f55, f56, f72, f73, f74, hrds, hrdx, hcur3, hsl.ia, hbd, bdv, hout3, hsw.1]; refine ⟨_, rfl, ?_⟩; simp only [gone]))
  case refine_1.refine_1.refine_1 h1 h2 h3 =>
    refine hJ4 _ _ ⟨l.length - (i + 1), by omega, i + 1, by omega, rfl, ?_⟩
    simp only [↓Tr.get_set, Nat.reduceEqDiff, if_true, if_false, ↓reduceIte, Int.natCast_add, Int.cast_ofNat_Int, Int.natCast_zero, true_and, and_true, Option.some.injEq, Value.int.injEq, f0, f1, f5, f8, f9, f10, f11, f54, f55, f56, f72, f73]
    rw [take_next (by omega), List.foldl_append, hd0, List.foldl_cons, List.foldl_nil, ← post1_min hc]
    exact ⟨(hRS3.local_ _ _).put_other hx0 (Nat.lt_succ_of_lt hixl) (by omega) (fun j hj => Nat.ne_of_lt (hidx j hj)) _, mine_put_same (mine_obj hcur3).1⟩
  case refine_1.refine_1.refine_2 h1 h2 h3 =>
    refine hJ4 _ _ ⟨l.length - (i + 1), by omega, i + 1, by omega, rfl, ?_⟩
    simp only [↓Tr.get_set, Nat.reduceEqDiff, if_true, if_false, ↓reduceIte, Int.natCast_add, Int.cast_ofNat_Int, Int.natCast_zero, true_and, and_true, Option.some.injEq, Value.int.injEq, f0, f1, f5, f8, f9, f10, f11, f54, f55, f56, f72, f73]
    rw [take_next (by omega), List.foldl_append, hd0, List.foldl_cons, List.foldl_nil, post1_no hc]
    exact ⟨hRS3.local_ _ _, by rw [mine_put_ne (by omega), mine_add_ne (by omega)]; exact hcur3⟩
  case refine_1.refine_2.refine_1 h1 h2 h3 =>
    obtain rfl : i = l.length := by omega
    rw [List.take_length] at hd0
    have hd : postRows n (l.map edge) s (z + 1) = d0 := by rw [hpS, ← hrows, hd0]
    refine hPost _ _ ⟨?_, hsw.2.same⟩
    rw [hsh, short_step (by omega), if_pos]
    refine List.any_eq_true.2 ⟨s, by simpa using hsn, ?_⟩
    unfold negAt
    rw [hd, gx_eq, decide_eq_true hc]
  case refine_1.refine_2.refine_2 h1 h2 h3 =>
    obtain rfl : i = l.length := by omega
    rw [List.take_length] at hd0
    have hd : postRows n (l.map edge) s (z + 1) = d0 := by rw [hpS, ← hrows, hd0]
    refine hJ2 _ _ ⟨n - (s + 1), by omega, s + 1, ids.set s ix, by omega, rfl, by rw [List.length_set]; exact hids, ?_⟩
    simp only [↓Tr.get_set, Nat.reduceEqDiff, if_true, if_false, ↓reduceIte, Int.natCast_add, Int.cast_ofNat_Int, Int.natCast_zero, true_and, and_true, Option.some.injEq, Value.int.injEq, f0, f1, f5, f8, f9, f10, f11, f54, f55, f56, f72, f73]
    refine ⟨hsw.2.congr fun k hk => ?_, fun k hk => ?_⟩
    · unfold updR
      rw [← hrw]
      by_cases h : k = s
      · rw [if_pos h, if_pos (by omega), h, hd]
      · rw [if_neg h]
        dsimp only
        by_cases h2 : k < s
        · rw [if_pos h2, if_pos (by omega)]
        · rw [if_neg h2, if_neg (by omega)]
    · rcases Nat.lt_succ_iff_lt_or_eq.1 hk with hk | rfl
      · exact hng k hk
      · unfold negAt
        rw [hd, gx_eq, decide_eq_false (by omega)]
end Go.Gh
