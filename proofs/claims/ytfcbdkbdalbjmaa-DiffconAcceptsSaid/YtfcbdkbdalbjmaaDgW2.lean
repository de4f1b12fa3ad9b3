/-
  few, small, Equal, Accept of diffcon's laws, walked.
-/
import Derived.Test.YtfcbdkbdalbjmaaDgW1
namespace Go.Gh
set_option linter.unusedSimpArgs false
set_option linter.unusedVariables false
open Go.RowKit
set_option maxRecDepth 4000

theorem small_ok (H : GHeap) (n : Int) : ∃ r H', gev G 17 [.int .i64 n] H = some (r, H') ∧ (r = .bool (decide (n ≤ 16)) ∧ H' = H) := by
  refine gev_GW (f := 17) rfl fun Post hPost => ?_
  simp only [frameOf, Nat.reduceAdd]
  repeat' (first | refine GW_seq ?_ | refine GW_line ?_ | refine Gw_nil ?_ | refine GN_seq ?_ | refine GN_blk ?_ | refine GW_block ?_ | refine GW_skip ?_ | refine GW_exit ?_ | refine GX_seq ?_ | refine GX_blk ?_ | refine GX_up rfl ?_ | refine GX_inv ?_ | refine GW_ret ?_ | refine GN_inv ?_ | refine GN_nil ?_ | refine GW_any rfl ?_ | ((first | refine Gw_s fun K' hK' => ?_ | refine Gw_0 fun K' hK' => ?_ | intro K' hK'); (simp (disch := (first | (simp only [ints_length, List.length_set, List.length_cons, List.length_nil, len_put, len_add, lim_put, lim_add, flatV_int, flatV_bool, flatV_str, flatV_ptr, flatV_sl, List.all_cons, List.all_nil, Bool.and_self, List.size_toArray, Nat.reduceAdd, Nat.zero_add]; done) | omega | (simp only [ints_length, List.length_set, List.length_cons, List.length_nil, len_put, len_add, lim_put, lim_add, flatV_int, flatV_bool, flatV_str, flatV_ptr, flatV_sl, List.all_cons, List.all_nil, Bool.and_self, List.size_toArray, Nat.reduceAdd, Nat.zero_add] <;> omega) | fail)) only [gd_move, gd_pick, gd_alloc, gd_load, gd_bin, gd_un, gd_fa, gd_ia, gd_len, gd_lenOf, gd_store, gd_ix, gd_fld, gd_cap, gd_ext', gd_conv, gd_mk, gd_app, gd_copy, gd_next, gd_fn, gd_min, gd_max, gd_slice, gd_build, gd_buildSl, gd_box, gd_nilc', gd_rng, gd_appM, gM_move, gM_pick, gM_alloc, gM_load, gM_bin, gM_un, gM_fa, gM_ia, gM_len, gM_lenOf, gM_ix, gM_fld, gM_cap, gM_ext, gM_conv, gM_mk, gM_fn, gM_min, gM_max, gM_slice, gM_build, gM_buildSl, gM_box, gM_nilc, gM_rng, gM_appM, GArg.ev, evs, evOpt, Tr.get_set, Option.bind_some, Option.map_some, add_none, gb_lss, gb_gtr, gb_leq, gb_geq, gb_add, gb_sub, gb_mul, gb_eql', gb_neq', gu_not, gu_neg, gfold_min1, gfold_max1, wr_i64, wr_i32, wr_u8, wr_u16, wr_u32, glen_sl, glen_str, gadd_ptr, gld_1, gld_n, gst_1, gst_n, gset_ok, gsetn_all, rd_put_same, rd_put_ne, rd_add_eq, rd_add_ne, rdn_put_ne, rdn_add_ne, rdn_put_all, rdn_add_all, mine_put_same, mine_put_ne, mine_add_eq, mine_add_ne, len_put, len_add, lim_put, lim_add, ints_at, ints_set, ints_length, Option.map_map, List.getElem?_cons_zero, List.getElem?_cons_succ, List.length_cons, List.length_nil, List.length_set, List.size_toArray, Int.toNat_natCast, Nat.mul_one, Nat.add_zero, Nat.zero_add, ite_true, ite_false, if_true, if_false, Bool.false_eq_true, reduceIte, decide_true, decide_false, Bool.not_true, Bool.not_false, blk_sl, ofs_sl, Nat.reduceEqDiff, Nat.reduceAdd, Nat.reduceMul, reduceCtorEq, g17]; refine G1_go (hK' _ _ ?_); clear hK' K')) | ((first | refine Gw_gt fun A B hA hB => ?_ | refine Gw_gf fun A B hA hB => ?_ | refine GW_cond fun A B hA hB => ?_); (simp only [Tr.get_set, Nat.reduceEqDiff, if_true, if_false, reduceIte, g17]; first | (refine Gc_true (hA ?_); clear hA hB A B) | (refine Gc_false (hB ?_); clear hA hB A B) | (refine Gc_some (fun hc => hA ?_) (fun hc => hB ?_) <;> clear hA hB A B <;> (try simp only [decide_eq_true_eq, decide_eq_false_iff_not, Bool.not_eq_true', Bool.not_eq_false', Int.not_lt, Int.not_le, Bool.not_true, Bool.not_false, Bool.true_eq_false, Bool.false_eq_true, Decidable.not_not] at hc)))) | (refine GR.mk ?_; simp only [gresults, Tr.get_set, Option.bind_some, Nat.reduceEqDiff, if_true, if_false, reduceIte, gld_1, gld_n, g17]; refine ⟨_, rfl, ?_⟩; simp only [gone]))
  exact hPost _ _ ⟨rfl, rfl⟩
theorem Bds_take (l : List Bd) (k : Nat) : (Bds l).take (k * 6) = Bds (l.take k) := by
  induction l generalizing k with
  | nil => simp [Bds]
  | cons b l ih =>
    cases k with
    | zero => simp [Bds]
    | succ k =>
      show (bcells b ++ Bds l).take ((k + 1) * 6) = bcells b ++ Bds (l.take k)
      rw [List.take_append, ← ih, List.take_of_length_le (by simp [bcells]; omega)]
      congr 2
      simp [bcells]; omega
theorem few_ok {H : GHeap} {v : Value} {l : List Bd} (hl : GArg1 H 6 v l.length (Bds l)) :
    ∃ r H', gev G 14 [v] H = some (r, H') ∧ (H' = H ∧ GArg1 H 6 r (l.take 16).length (Bds (l.take 16))) := by
  refine gev_GW (f := 14) rfl fun Post hPost => ?_
  have hsl := hl.rd.isSl
  obtain ⟨v', h1, h2, _⟩ := hl.cut (k := .i64) (a := 0) (b := min l.length 16) (by omega) (by omega) (by omega)
  rw [← gslice_lo0 (by rintro x h; cases h; exact ⟨_, _, rfl⟩)] at h1
  simp only [frameOf, Nat.reduceAdd]
  repeat' (first | refine GW_seq ?_ | refine GW_line ?_ | refine Gw_nil ?_ | refine GN_seq ?_ | refine GN_blk ?_ | refine GW_block ?_ | refine GW_skip ?_ | refine GW_exit ?_ | refine GX_seq ?_ | refine GX_blk ?_ | refine GX_up rfl ?_ | refine GX_inv ?_ | refine GW_ret ?_ | refine GN_inv ?_ | refine GN_nil ?_ | refine GW_any rfl ?_ | ((first | refine Gw_s fun K' hK' => ?_ | refine Gw_0 fun K' hK' => ?_ | intro K' hK'); (simp (disch := (first | (simp only [ints_length, List.length_set, List.length_cons, List.length_nil, len_put, len_add, lim_put, lim_add, flatV_int, flatV_bool, flatV_str, flatV_ptr, flatV_sl, List.all_cons, List.all_nil, Bool.and_self, List.size_toArray, Nat.reduceAdd, Nat.zero_add]; done) | omega | (simp only [ints_length, List.length_set, List.length_cons, List.length_nil, len_put, len_add, lim_put, lim_add, flatV_int, flatV_bool, flatV_str, flatV_ptr, flatV_sl, List.all_cons, List.all_nil, Bool.and_self, List.size_toArray, Nat.reduceAdd, Nat.zero_add] <;> omega) | fail)) only [gd_move, gd_pick, gd_alloc, gd_load, gd_bin, gd_un, gd_fa, gd_ia, gd_len, gd_lenOf, gd_store, gd_ix, gd_fld, gd_cap, gd_ext', gd_conv, gd_mk, gd_app, gd_copy, gd_next, gd_fn, gd_min, gd_max, gd_slice, gd_build, gd_buildSl, gd_box, gd_nilc', gd_rng, gd_appM, gM_move, gM_pick, gM_alloc, gM_load, gM_bin, gM_un, gM_fa, gM_ia, gM_len, gM_lenOf, gM_ix, gM_fld, gM_cap, gM_ext, gM_conv, gM_mk, gM_fn, gM_min, gM_max, gM_slice, gM_build, gM_buildSl, gM_box, gM_nilc, gM_rng, gM_appM, GArg.ev, evs, evOpt, Tr.get_set, Option.bind_some, Option.map_some, add_none, gb_lss, gb_gtr, gb_leq, gb_geq, gb_add, gb_sub, gb_mul, gb_eql', gb_neq', gu_not, gu_neg, gfold_min1, gfold_max1, wr_i64, wr_i32, wr_u8, wr_u16, wr_u32, glen_sl, glen_str, gadd_ptr, gld_1, gld_n, gst_1, gst_n, gset_ok, gsetn_all, rd_put_same, rd_put_ne, rd_add_eq, rd_add_ne, rdn_put_ne, rdn_add_ne, rdn_put_all, rdn_add_all, mine_put_same, mine_put_ne, mine_add_eq, mine_add_ne, len_put, len_add, lim_put, lim_add, ints_at, ints_set, ints_length, Option.map_map, List.getElem?_cons_zero, List.getElem?_cons_succ, List.length_cons, List.length_nil, List.length_set, List.size_toArray, Int.toNat_natCast, Nat.mul_one, Nat.add_zero, Nat.zero_add, ite_true, ite_false, if_true, if_false, Bool.false_eq_true, reduceIte, decide_true, decide_false, Bool.not_true, Bool.not_false, blk_sl, ofs_sl, Nat.reduceEqDiff, Nat.reduceAdd, Nat.reduceMul, reduceCtorEq, g14, hsl.len, h1]; refine G1_go (hK' _ _ ?_); clear hK' K')) | ((first | refine Gw_gt fun A B hA hB => ?_ | refine Gw_gf fun A B hA hB => ?_ | refine GW_cond fun A B hA hB => ?_); (simp only [Tr.get_set, Nat.reduceEqDiff, if_true, if_false, reduceIte, g14, hsl.len, h1]; first | (refine Gc_true (hA ?_); clear hA hB A B) | (refine Gc_false (hB ?_); clear hA hB A B) | (refine Gc_some (fun hc => hA ?_) (fun hc => hB ?_) <;> clear hA hB A B <;> (try simp only [decide_eq_true_eq, decide_eq_false_iff_not, Bool.not_eq_true', Bool.not_eq_false', Int.not_lt, Int.not_le, Bool.not_true, Bool.not_false, Bool.true_eq_false, Bool.false_eq_true, Decidable.not_not] at hc)))) | (refine GR.mk ?_; simp only [gresults, Tr.get_set, Option.bind_some, Nat.reduceEqDiff, if_true, if_false, reduceIte, gld_1, gld_n, g14, hsl.len, h1]; refine ⟨_, rfl, ?_⟩; simp only [gone]))
  refine hPost _ _ ⟨rfl, ?_⟩
  have e : (min (l.length : Int) 16).toNat - Int.toNat 0 = (l.take 16).length := by rw [List.length_take]; omega
  rw [e] at h2
  have e2 : ((Bds l).drop (Int.toNat 0 * 6)).take ((l.take 16).length * 6) = Bds (l.take 16) := by
    show ((Bds l).drop 0).take _ = _
    rw [List.drop_zero, Bds_take, List.length_take]
    congr 1
    rw [List.take_eq_take_iff]; omega
  rw [e2] at h2
  exact h2
theorem equal_gw {f : Nat} (hf : G f = some (.fn g20)) {H : GHeap} (hw : H.wf) {v w : Value} {xs ys : List Int} (hv : GRd H 1 v xs.length (ints .i64 xs)) (hy : GRd H 1 w ys.length (ints .i64 ys)) (hxb : xs.length ≤ 4611686018427387904) :
    ∃ r H', gev G f [v, w] H = some (r, H') ∧ (r = .bool (decide (xs = ys)) ∧ H' = H) := by
  refine gev_GW hf fun Post hPost => ?_
  have hsv := hv.isSl
  have hsy := hy.isSl
  simp only [frameOf, Nat.reduceAdd]
  repeat' (first | refine GW_seq ?_ | refine GW_line ?_ | refine Gw_nil ?_ | refine GN_seq ?_ | refine GN_blk ?_ | refine GW_block ?_ | refine GW_skip ?_ | refine GW_exit ?_ | refine GX_seq ?_ | refine GX_blk ?_ | refine GX_up rfl ?_ | refine GX_inv ?_ | refine GW_ret ?_ | refine GN_inv ?_ | refine GN_nil ?_ | refine GW_any rfl ?_ | ((first | refine Gw_s fun K' hK' => ?_ | refine Gw_0 fun K' hK' => ?_ | intro K' hK'); (simp (disch := (first | (simp only [ints_length, List.length_set, List.length_cons, List.length_nil, len_put, len_add, lim_put, lim_add, flatV_int, flatV_bool, flatV_str, flatV_ptr, flatV_sl, List.all_cons, List.all_nil, Bool.and_self, List.size_toArray, Nat.reduceAdd, Nat.zero_add]; done) | omega | (simp only [ints_length, List.length_set, List.length_cons, List.length_nil, len_put, len_add, lim_put, lim_add, flatV_int, flatV_bool, flatV_str, flatV_ptr, flatV_sl, List.all_cons, List.all_nil, Bool.and_self, List.size_toArray, Nat.reduceAdd, Nat.zero_add] <;> omega) | fail)) only [gd_move, gd_pick, gd_alloc, gd_load, gd_bin, gd_un, gd_fa, gd_ia, gd_len, gd_lenOf, gd_store, gd_ix, gd_fld, gd_cap, gd_ext', gd_conv, gd_mk, gd_app, gd_copy, gd_next, gd_fn, gd_min, gd_max, gd_slice, gd_build, gd_buildSl, gd_box, gd_nilc', gd_rng, gd_appM, gM_move, gM_pick, gM_alloc, gM_load, gM_bin, gM_un, gM_fa, gM_ia, gM_len, gM_lenOf, gM_ix, gM_fld, gM_cap, gM_ext, gM_conv, gM_mk, gM_fn, gM_min, gM_max, gM_slice, gM_build, gM_buildSl, gM_box, gM_nilc, gM_rng, gM_appM, GArg.ev, evs, evOpt, Tr.get_set, Option.bind_some, Option.map_some, add_none, gb_lss, gb_gtr, gb_leq, gb_geq, gb_add, gb_sub, gb_mul, gb_eql', gb_neq', gu_not, gu_neg, gfold_min1, gfold_max1, wr_i64, wr_i32, wr_u8, wr_u16, wr_u32, glen_sl, glen_str, gadd_ptr, gld_1, gld_n, gst_1, gst_n, gset_ok, gsetn_all, rd_put_same, rd_put_ne, rd_add_eq, rd_add_ne, rdn_put_ne, rdn_add_ne, rdn_put_all, rdn_add_all, mine_put_same, mine_put_ne, mine_add_eq, mine_add_ne, len_put, len_add, lim_put, lim_add, ints_at, ints_set, ints_length, Option.map_map, List.getElem?_cons_zero, List.getElem?_cons_succ, List.length_cons, List.length_nil, List.length_set, List.size_toArray, Int.toNat_natCast, Nat.mul_one, Nat.add_zero, Nat.zero_add, ite_true, ite_false, if_true, if_false, Bool.false_eq_true, reduceIte, decide_true, decide_false, Bool.not_true, Bool.not_false, blk_sl, ofs_sl, Nat.reduceEqDiff, Nat.reduceAdd, Nat.reduceMul, reduceCtorEq, g20, hsv.len, hsy.len]; refine G1_go (hK' _ _ ?_); clear hK' K')) | ((first | refine Gw_gt fun A B hA hB => ?_ | refine Gw_gf fun A B hA hB => ?_ | refine GW_cond fun A B hA hB => ?_); (simp only [Tr.get_set, Nat.reduceEqDiff, if_true, if_false, reduceIte, g20, hsv.len, hsy.len]; first | (refine Gc_true (hA ?_); clear hA hB A B) | (refine Gc_false (hB ?_); clear hA hB A B) | (refine Gc_some (fun hc => hA ?_) (fun hc => hB ?_) <;> clear hA hB A B <;> (try simp only [decide_eq_true_eq, decide_eq_false_iff_not, Bool.not_eq_true', Bool.not_eq_false', Int.not_lt, Int.not_le, Bool.not_true, Bool.not_false, Bool.true_eq_false, Bool.false_eq_true, Decidable.not_not] at hc)))) | (refine GR.mk ?_; simp only [gresults, Tr.get_set, Option.bind_some, Nat.reduceEqDiff, if_true, if_false, reduceIte, gld_1, gld_n, g20, hsv.len, hsy.len]; refine ⟨_, rfl, ?_⟩; simp only [gone]))
  case refine_1 => exact hPost _ _ ⟨by rw [decide_eq_false]; intro e; rw [e] at hc; exact hc rfl, rfl⟩
  have hl : xs.length = ys.length := by omega
  refine GW_loop (fun k fr H1 => H = H1 ∧ ∃ (j : Nat), j ≤ xs.length ∧ k = xs.length - j ∧ fr.get 0 = some (v) ∧ fr.get 1 = some (w) ∧ fr.get 12 = some (.int .i64 xs.length) ∧ fr.get 13 = some (.int .i64 j) ∧ ∀ i, i < j → xs[i]! = ys[i]!) ?_ xs.length ?_
  case refine_2 =>
    refine ⟨rfl, 0, by omega, by omega, ?_⟩
    simp only [Tr.get_set, Nat.reduceEqDiff, if_true, if_false, reduceIte, Int.natCast_add, Int.cast_ofNat_Int, Int.natCast_zero, true_and, and_true]
    intro i hi; omega
  rintro k fr H1 ⟨hHH, j, hj, rfl, f0, f1, f12, f13, hEq⟩ J hJ
  subst hHH
  have hbx : ∀ k : Nat, k < xs.length → H.rd (blk v) (ofs v + k) = some (.int .i64 xs[k]!) := fun k hk => by
    rw [hv.rd (by rw [ints_length]; exact hk), ints_at hk]
  have hby : ∀ k : Nat, k < ys.length → H.rd (blk w) (ofs w + k) = some (.int .i64 ys[k]!) := fun k hk => by
    rw [hy.rd (by rw [ints_length]; exact hk), ints_at hk]
  repeat' (first | refine GW_seq ?_ | refine GW_line ?_ | refine Gw_nil ?_ | refine GN_seq ?_ | refine GN_blk ?_ | refine GW_block ?_ | refine GW_skip ?_ | refine GW_exit ?_ | refine GX_seq ?_ | refine GX_blk ?_ | refine GX_up rfl ?_ | refine GX_inv ?_ | refine GW_ret ?_ | refine GN_inv ?_ | refine GN_nil ?_ | refine GW_any rfl ?_ | ((first | refine Gw_s fun K' hK' => ?_ | refine Gw_0 fun K' hK' => ?_ | intro K' hK'); (simp (disch := (first | (simp only [ints_length, List.length_set, List.length_cons, List.length_nil, len_put, len_add, lim_put, lim_add, flatV_int, flatV_bool, flatV_str, flatV_ptr, flatV_sl, List.all_cons, List.all_nil, Bool.and_self, List.size_toArray, Nat.reduceAdd, Nat.zero_add]; done) | omega | (simp only [ints_length, List.length_set, List.length_cons, List.length_nil, len_put, len_add, lim_put, lim_add, flatV_int, flatV_bool, flatV_str, flatV_ptr, flatV_sl, List.all_cons, List.all_nil, Bool.and_self, List.size_toArray, Nat.reduceAdd, Nat.zero_add] <;> omega) | fail)) only [gd_move, gd_pick, gd_alloc, gd_load, gd_bin, gd_un, gd_fa, gd_ia, gd_len, gd_lenOf, gd_store, gd_ix, gd_fld, gd_cap, gd_ext', gd_conv, gd_mk, gd_app, gd_copy, gd_next, gd_fn, gd_min, gd_max, gd_slice, gd_build, gd_buildSl, gd_box, gd_nilc', gd_rng, gd_appM, gM_move, gM_pick, gM_alloc, gM_load, gM_bin, gM_un, gM_fa, gM_ia, gM_len, gM_lenOf, gM_ix, gM_fld, gM_cap, gM_ext, gM_conv, gM_mk, gM_fn, gM_min, gM_max, gM_slice, gM_build, gM_buildSl, gM_box, gM_nilc, gM_rng, gM_appM, GArg.ev, evs, evOpt, Tr.get_set, Option.bind_some, Option.map_some, add_none, gb_lss, gb_gtr, gb_leq, gb_geq, gb_add, gb_sub, gb_mul, gb_eql', gb_neq', gu_not, gu_neg, gfold_min1, gfold_max1, wr_i64, wr_i32, wr_u8, wr_u16, wr_u32, glen_sl, glen_str, gadd_ptr, gld_1, gld_n, gst_1, gst_n, gset_ok, gsetn_all, rd_put_same, rd_put_ne, rd_add_eq, rd_add_ne, rdn_put_ne, rdn_add_ne, rdn_put_all, rdn_add_all, mine_put_same, mine_put_ne, mine_add_eq, mine_add_ne, len_put, len_add, lim_put, lim_add, ints_at, ints_set, ints_length, Option.map_map, List.getElem?_cons_zero, List.getElem?_cons_succ, List.length_cons, List.length_nil, List.length_set, List.size_toArray, Int.toNat_natCast, Nat.mul_one, Nat.add_zero, Nat.zero_add, ite_true, ite_false, if_true, if_false, Bool.false_eq_true, reduceIte, decide_true, decide_false, Bool.not_true, Bool.not_false, blk_sl, ofs_sl, Nat.reduceEqDiff, Nat.reduceAdd, Nat.reduceMul, reduceCtorEq, g20, f0, f1, f12, f13, hsv.len, hsv.ia, hsy.ia, hbx, hby]; refine G1_go (hK' _ _ ?_); clear hK' K')) | ((first | refine Gw_gt fun A B hA hB => ?_ | refine Gw_gf fun A B hA hB => ?_ | refine GW_cond fun A B hA hB => ?_); (simp only [Tr.get_set, Nat.reduceEqDiff, if_true, if_false, reduceIte, g20, f0, f1, f12, f13, hsv.len, hsv.ia, hsy.ia, hbx, hby]; first | (refine Gc_true (hA ?_); clear hA hB A B) | (refine Gc_false (hB ?_); clear hA hB A B) | (refine Gc_some (fun hc => hA ?_) (fun hc => hB ?_) <;> clear hA hB A B <;> (try simp only [decide_eq_true_eq, decide_eq_false_iff_not, Bool.not_eq_true', Bool.not_eq_false', Int.not_lt, Int.not_le, Bool.not_true, Bool.not_false, Bool.true_eq_false, Bool.false_eq_true, Decidable.not_not] at hc)))) | (refine GR.mk ?_; simp only [gresults, Tr.get_set, Option.bind_some, Nat.reduceEqDiff, if_true, if_false, reduceIte, gld_1, gld_n, g20, f0, f1, f12, f13, hsv.len, hsv.ia, hsy.ia, hbx, hby]; refine ⟨_, rfl, ?_⟩; simp only [gone]))
  case refine_2.refine_1.refine_1.refine_1 h0 h1 =>
    refine hPost _ _ ⟨?_, rfl⟩
    rw [decide_eq_false]; rintro rfl; exact hc rfl
  case refine_2.refine_1.refine_1.refine_2 h0 h1 =>
    refine hJ _ _ ⟨xs.length - (j + 1), by omega, rfl, j + 1, by omega, rfl, ?_⟩
    simp only [Tr.get_set, Nat.reduceEqDiff, if_true, if_false, reduceIte, Int.natCast_add, Int.cast_ofNat_Int, Int.natCast_zero, true_and, and_true, f0, f1, f12]
    intro i hi
    rcases Nat.lt_succ_iff_lt_or_eq.1 hi with h | rfl
    · exact hEq i h
    · exact hc
  case refine_2.refine_1.refine_2 h0 =>
    refine hPost _ _ ⟨?_, rfl⟩
    rw [decide_eq_true]
    refine List.ext_getElem hl fun i h1 h2 => ?_
    have := hEq i (by omega)
    rwa [getElem!_pos xs i h1, getElem!_pos ys i h2] at this
theorem chkL_valid {n : Nat} : ∀ {l : List Bd}, chkL n l = 0 → Valid n l
  | [], _ => fun b hb => by cases hb
  | b :: l, h => by
    unfold chkL at h
    by_cases h1 : chk1 n b = 0
    · rw [if_pos h1] at h
      intro c hc
      rcases List.mem_cons.1 hc with rfl | hc
      · unfold chk1 at h1
        by_cases hb : badIdx n c
        · rw [if_pos hb] at h1; cases h1
        · rw [if_neg hb] at h1
          by_cases hb2 : badC c
          · rw [if_pos hb2] at h1; cases h1
          · unfold badIdx at hb; unfold badC at hb2; omega
      · exact chkL_valid h c hc
    · rw [if_neg h1] at h; exact absurd h h1
theorem checkF_ok {n : Int} {l : List Bd} (h : checkF n l = 0) : 1 ≤ n ∧ n ≤ 512 ∧ l.length ≤ 4000 ∧ Valid n.toNat l := by
  unfold checkF at h
  by_cases h1 : n < 1 ∨ 512 < n
  · rw [if_pos h1] at h; cases h
  rw [if_neg h1] at h
  by_cases h2 : 4000 < l.length
  · rw [if_pos h2] at h; cases h
  rw [if_neg h2] at h
  refine ⟨by omega, by omega, by omega, chkL_valid ?_⟩
  rwa [show ((n.toNat : Nat) : Int) = n by omega]
/-- Accept -/
def farI : Int := 1152921504606846976
def offX (v : Int) : Bool := decide (v < -1152921504606846976) || decide (1152921504606846976 < v)
def breaks (xs : List Int) (b : Bd) : Bool := decide (b.C < xs[b.J.toNat]! - xs[b.I.toNat]!)
def acceptF (n : Int) (l : List Bd) (xs : List Int) : Int :=
  if checkF n l ≠ 0 then checkF n l else if (xs.length : Int) ≠ n then 1 else if xs.any offX then 2 else if l.any (breaks xs) then 16 else 0
theorem any_first {α : Type} [Inhabited α] {l : List α} {p : α → Bool} {j : Nat} (h0 : j < l.length) (h : p l[j]! = true) : l.any p = true := by
  rw [List.any_eq_true]
  exact ⟨l[j], List.getElem_mem h0, by rwa [getElem!_pos l j h0] at h⟩
theorem any_none {α : Type} [Inhabited α] {l : List α} {p : α → Bool} (h : ∀ i, i < l.length → p l[i]! = false) : l.any p = false := by
  rw [List.any_eq_false]
  intro x hx
  obtain ⟨i, hi, rfl⟩ := List.getElem_of_mem hx
  have := h i hi
  rw [getElem!_pos l i hi] at this
  rw [this]; exact Bool.false_ne_true
theorem accept_ok {H : GHeap} (hw : H.wf) {v w : Value} {l : List Bd} (hl : GRd H 6 v l.length (Bds l)) {xs : List Int} (hx : GRd H 1 w xs.length (ints .i64 xs)) (n : Int) :
    ∃ r H', gev G 25 [.int .i64 n, v, w] H = some (r, H') ∧ (r = .int .i64 (acceptF n l xs) ∧ Same H H') := by
  refine gev_GW (f := 25) rfl fun Post hPost => ?_
  simp only [frameOf, Nat.reduceAdd]
  have hsl := hl.isSl
  have hsx := hx.isSl
  repeat' (first | refine GW_seq ?_ | refine GW_line ?_ | refine Gw_nil ?_ | refine GN_seq ?_ | refine GN_blk ?_ | refine GW_block ?_ | refine GW_skip ?_ | refine GW_exit ?_ | refine GX_seq ?_ | refine GX_blk ?_ | refine GX_up rfl ?_ | refine GX_inv ?_ | refine GW_ret ?_ | refine GN_inv ?_ | refine GN_nil ?_ | refine GW_any rfl ?_ | ((first | refine Gw_s fun K' hK' => ?_ | refine Gw_0 fun K' hK' => ?_ | intro K' hK'); (simp (disch := (first | (simp only [ints_length, List.length_set, List.length_cons, List.length_nil, len_put, len_add, lim_put, lim_add, flatV_int, flatV_bool, flatV_str, flatV_ptr, flatV_sl, List.all_cons, List.all_nil, Bool.and_self, List.size_toArray, Nat.reduceAdd, Nat.zero_add]; done) | omega | (simp only [ints_length, List.length_set, List.length_cons, List.length_nil, len_put, len_add, lim_put, lim_add, flatV_int, flatV_bool, flatV_str, flatV_ptr, flatV_sl, List.all_cons, List.all_nil, Bool.and_self, List.size_toArray, Nat.reduceAdd, Nat.zero_add] <;> omega) | fail)) only [gd_move, gd_pick, gd_alloc, gd_load, gd_bin, gd_un, gd_fa, gd_ia, gd_len, gd_lenOf, gd_store, gd_ix, gd_fld, gd_cap, gd_ext', gd_conv, gd_mk, gd_app, gd_copy, gd_next, gd_fn, gd_min, gd_max, gd_slice, gd_build, gd_buildSl, gd_box, gd_nilc', gd_rng, gd_appM, gM_move, gM_pick, gM_alloc, gM_load, gM_bin, gM_un, gM_fa, gM_ia, gM_len, gM_lenOf, gM_ix, gM_fld, gM_cap, gM_ext, gM_conv, gM_mk, gM_fn, gM_min, gM_max, gM_slice, gM_build, gM_buildSl, gM_box, gM_nilc, gM_rng, gM_appM, GArg.ev, evs, evOpt, Tr.get_set, Option.bind_some, Option.map_some, add_none, gb_lss, gb_gtr, gb_leq, gb_geq, gb_add, gb_sub, gb_mul, gb_eql', gb_neq', gu_not, gu_neg, gfold_min1, gfold_max1, wr_i64, wr_i32, wr_u8, wr_u16, wr_u32, glen_sl, glen_str, gadd_ptr, gld_1, gld_n, gst_1, gst_n, gset_ok, gsetn_all, rd_put_same, rd_put_ne, rd_add_eq, rd_add_ne, rdn_put_ne, rdn_add_ne, rdn_put_all, rdn_add_all, mine_put_same, mine_put_ne, mine_add_eq, mine_add_ne, len_put, len_add, lim_put, lim_add, ints_at, ints_set, ints_length, Option.map_map, List.getElem?_cons_zero, List.getElem?_cons_succ, List.length_cons, List.length_nil, List.length_set, List.size_toArray, Int.toNat_natCast, Nat.mul_one, Nat.add_zero, Nat.zero_add, ite_true, ite_false, if_true, if_false, Bool.false_eq_true, reduceIte, decide_true, decide_false, Bool.not_true, Bool.not_false, blk_sl, ofs_sl, Nat.reduceEqDiff, Nat.reduceAdd, Nat.reduceMul, reduceCtorEq, g25]; refine G1_go (hK' _ _ ?_); clear hK' K')) | ((first | refine Gw_gt fun A B hA hB => ?_ | refine Gw_gf fun A B hA hB => ?_ | refine GW_cond fun A B hA hB => ?_); (simp only [Tr.get_set, Nat.reduceEqDiff, if_true, if_false, reduceIte, g25]; first | (refine Gc_true (hA ?_); clear hA hB A B) | (refine Gc_false (hB ?_); clear hA hB A B) | (refine Gc_some (fun hc => hA ?_) (fun hc => hB ?_) <;> clear hA hB A B <;> (try simp only [decide_eq_true_eq, decide_eq_false_iff_not, Bool.not_eq_true', Bool.not_eq_false', Int.not_lt, Int.not_le, Bool.not_true, Bool.not_false, Bool.true_eq_false, Bool.false_eq_true, Decidable.not_not] at hc)))) | (refine GR.mk ?_; simp only [gresults, Tr.get_set, Option.bind_some, Nat.reduceEqDiff, if_true, if_false, reduceIte, gld_1, gld_n, g25]; refine ⟨_, rfl, ?_⟩; simp only [gone]))
  refine Gw_s fun K' hK' => G1_call (by simp only [gtarget, GArg.ev, evs, Tr.get_set, Nat.reduceEqDiff, if_true, if_false, reduceIte, Option.map_some]; rfl) (check_ok hw hl n) fun r' H' hq => hK' _ _ ?_
  obtain ⟨rfl, hS⟩ := hq
  repeat' (first | refine GW_seq ?_ | refine GW_line ?_ | refine Gw_nil ?_ | refine GN_seq ?_ | refine GN_blk ?_ | refine GW_block ?_ | refine GW_skip ?_ | refine GW_exit ?_ | refine GX_seq ?_ | refine GX_blk ?_ | refine GX_up rfl ?_ | refine GX_inv ?_ | refine GW_ret ?_ | refine GN_inv ?_ | refine GN_nil ?_ | refine GW_any rfl ?_ | ((first | refine Gw_s fun K' hK' => ?_ | refine Gw_0 fun K' hK' => ?_ | intro K' hK'); (simp (disch := (first | (simp only [ints_length, List.length_set, List.length_cons, List.length_nil, len_put, len_add, lim_put, lim_add, flatV_int, flatV_bool, flatV_str, flatV_ptr, flatV_sl, List.all_cons, List.all_nil, Bool.and_self, List.size_toArray, Nat.reduceAdd, Nat.zero_add]; done) | omega | (simp only [ints_length, List.length_set, List.length_cons, List.length_nil, len_put, len_add, lim_put, lim_add, flatV_int, flatV_bool, flatV_str, flatV_ptr, flatV_sl, List.all_cons, List.all_nil, Bool.and_self, List.size_toArray, Nat.reduceAdd, Nat.zero_add] <;> omega) | fail)) only [gd_move, gd_pick, gd_alloc, gd_load, gd_bin, gd_un, gd_fa, gd_ia, gd_len, gd_lenOf, gd_store, gd_ix, gd_fld, gd_cap, gd_ext', gd_conv, gd_mk, gd_app, gd_copy, gd_next, gd_fn, gd_min, gd_max, gd_slice, gd_build, gd_buildSl, gd_box, gd_nilc', gd_rng, gd_appM, gM_move, gM_pick, gM_alloc, gM_load, gM_bin, gM_un, gM_fa, gM_ia, gM_len, gM_lenOf, gM_ix, gM_fld, gM_cap, gM_ext, gM_conv, gM_mk, gM_fn, gM_min, gM_max, gM_slice, gM_build, gM_buildSl, gM_box, gM_nilc, gM_rng, gM_appM, GArg.ev, evs, evOpt, Tr.get_set, Option.bind_some, Option.map_some, add_none, gb_lss, gb_gtr, gb_leq, gb_geq, gb_add, gb_sub, gb_mul, gb_eql', gb_neq', gu_not, gu_neg, gfold_min1, gfold_max1, wr_i64, wr_i32, wr_u8, wr_u16, wr_u32, glen_sl, glen_str, gadd_ptr, gld_1, gld_n, gst_1, gst_n, gset_ok, gsetn_all, rd_put_same, rd_put_ne, rd_add_eq, rd_add_ne, rdn_put_ne, rdn_add_ne, rdn_put_all, rdn_add_all, mine_put_same, mine_put_ne, mine_add_eq, mine_add_ne, len_put, len_add, lim_put, lim_add, ints_at, ints_set, ints_length, Option.map_map, List.getElem?_cons_zero, List.getElem?_cons_succ, List.length_cons, List.length_nil, List.length_set, List.size_toArray, Int.toNat_natCast, Nat.mul_one, Nat.add_zero, Nat.zero_add, ite_true, ite_false, if_true, if_false, Bool.false_eq_true, reduceIte, decide_true, decide_false, Bool.not_true, Bool.not_false, blk_sl, ofs_sl, Nat.reduceEqDiff, Nat.reduceAdd, Nat.reduceMul, reduceCtorEq, g25, hsx.len]; refine G1_go (hK' _ _ ?_); clear hK' K')) | ((first | refine Gw_gt fun A B hA hB => ?_ | refine Gw_gf fun A B hA hB => ?_ | refine GW_cond fun A B hA hB => ?_); (simp only [Tr.get_set, Nat.reduceEqDiff, if_true, if_false, reduceIte, g25, hsx.len]; first | (refine Gc_true (hA ?_); clear hA hB A B) | (refine Gc_false (hB ?_); clear hA hB A B) | (refine Gc_some (fun hc => hA ?_) (fun hc => hB ?_) <;> clear hA hB A B <;> (try simp only [decide_eq_true_eq, decide_eq_false_iff_not, Bool.not_eq_true', Bool.not_eq_false', Int.not_lt, Int.not_le, Bool.not_true, Bool.not_false, Bool.true_eq_false, Bool.false_eq_true, Decidable.not_not] at hc)))) | (refine GR.mk ?_; simp only [gresults, Tr.get_set, Option.bind_some, Nat.reduceEqDiff, if_true, if_false, reduceIte, gld_1, gld_n, g25, hsx.len]; refine ⟨_, rfl, ?_⟩; simp only [gone]))
  case refine_1 => exact hPost _ _ ⟨by rw [acceptF, if_pos hc], hS⟩
  case refine_2.refine_1 hc0 => exact hPost _ _ ⟨by rw [acceptF, if_neg (by omega), if_pos hc], hS⟩
  case refine_2.refine_2 hc0 =>
  have hF : acceptF n l xs = if xs.any offX then 2 else if l.any (breaks xs) then 16 else 0 := by rw [acceptF, if_neg (by omega), if_neg (by omega)]
  obtain ⟨hn1, hn2, hl4, hV⟩ := checkF_ok hc0
  refine GW_loop (fun k fr H1 => H' = H1 ∧ ∃ (j : Nat), j ≤ xs.length ∧ k = xs.length - j ∧ fr.get 1 = some (v) ∧ fr.get 2 = some (w) ∧ fr.get 22 = some (w) ∧ fr.get 23 = some (.int .i64 xs.length) ∧ fr.get 24 = some (.int .i64 j) ∧ ∀ i, i < j → offX xs[i]! = false) ?_ xs.length ?_
  case refine_2 =>
    refine ⟨rfl, 0, by omega, by omega, ?_⟩
    simp only [Tr.get_set, Nat.reduceEqDiff, if_true, if_false, reduceIte, Int.natCast_add, Int.cast_ofNat_Int, Int.natCast_zero, true_and, and_true]
    intro i hi; omega
  rintro k fr H1 ⟨hHH, j, hj, rfl, f1, f2, f22, f23, f24, hEq⟩ J hJ
  subst hHH
  have hbx : ∀ k : Nat, k < xs.length → H'.rd (blk w) (ofs w + k) = some (.int .i64 xs[k]!) := fun k hk => by
    rw [hS.rd (hx.lt (by omega)), hx.rd (by rw [ints_length]; exact hk), ints_at hk]
  repeat' (first | refine GW_seq ?_ | refine GW_line ?_ | refine Gw_nil ?_ | refine GN_seq ?_ | refine GN_blk ?_ | refine GW_block ?_ | refine GW_skip ?_ | refine GW_exit ?_ | refine GX_seq ?_ | refine GX_blk ?_ | refine GX_up rfl ?_ | refine GX_inv ?_ | refine GW_ret ?_ | refine GN_inv ?_ | refine GN_nil ?_ | refine GW_any rfl ?_ | ((first | refine Gw_s fun K' hK' => ?_ | refine Gw_0 fun K' hK' => ?_ | intro K' hK'); (simp (disch := (first | (simp only [ints_length, List.length_set, List.length_cons, List.length_nil, len_put, len_add, lim_put, lim_add, flatV_int, flatV_bool, flatV_str, flatV_ptr, flatV_sl, List.all_cons, List.all_nil, Bool.and_self, List.size_toArray, Nat.reduceAdd, Nat.zero_add]; done) | omega | (simp only [ints_length, List.length_set, List.length_cons, List.length_nil, len_put, len_add, lim_put, lim_add, flatV_int, flatV_bool, flatV_str, flatV_ptr, flatV_sl, List.all_cons, List.all_nil, Bool.and_self, List.size_toArray, Nat.reduceAdd, Nat.zero_add] <;> omega) | fail)) only [gd_move, gd_pick, gd_alloc, gd_load, gd_bin, gd_un, gd_fa, gd_ia, gd_len, gd_lenOf, gd_store, gd_ix, gd_fld, gd_cap, gd_ext', gd_conv, gd_mk, gd_app, gd_copy, gd_next, gd_fn, gd_min, gd_max, gd_slice, gd_build, gd_buildSl, gd_box, gd_nilc', gd_rng, gd_appM, gM_move, gM_pick, gM_alloc, gM_load, gM_bin, gM_un, gM_fa, gM_ia, gM_len, gM_lenOf, gM_ix, gM_fld, gM_cap, gM_ext, gM_conv, gM_mk, gM_fn, gM_min, gM_max, gM_slice, gM_build, gM_buildSl, gM_box, gM_nilc, gM_rng, gM_appM, GArg.ev, evs, evOpt, Tr.get_set, Option.bind_some, Option.map_some, add_none, gb_lss, gb_gtr, gb_leq, gb_geq, gb_add, gb_sub, gb_mul, gb_eql', gb_neq', gu_not, gu_neg, gfold_min1, gfold_max1, wr_i64, wr_i32, wr_u8, wr_u16, wr_u32, glen_sl, glen_str, gadd_ptr, gld_1, gld_n, gst_1, gst_n, gset_ok, gsetn_all, rd_put_same, rd_put_ne, rd_add_eq, rd_add_ne, rdn_put_ne, rdn_add_ne, rdn_put_all, rdn_add_all, mine_put_same, mine_put_ne, mine_add_eq, mine_add_ne, len_put, len_add, lim_put, lim_add, ints_at, ints_set, ints_length, Option.map_map, List.getElem?_cons_zero, List.getElem?_cons_succ, List.length_cons, List.length_nil, List.length_set, List.size_toArray, Int.toNat_natCast, Nat.mul_one, Nat.add_zero, Nat.zero_add, ite_true, ite_false, if_true, if_false, Bool.false_eq_true, reduceIte, decide_true, decide_false, Bool.not_true, Bool.not_false, blk_sl, ofs_sl, Nat.reduceEqDiff, Nat.reduceAdd, Nat.reduceMul, reduceCtorEq, g25, f1, f2, f22, f23, f24, hsx.len, hsx.ia, hsl.len, hbx]; refine G1_go (hK' _ _ ?_); clear hK' K')) | ((first | refine Gw_gt fun A B hA hB => ?_ | refine Gw_gf fun A B hA hB => ?_ | refine GW_cond fun A B hA hB => ?_); (simp only [Tr.get_set, Nat.reduceEqDiff, if_true, if_false, reduceIte, g25, f1, f2, f22, f23, f24, hsx.len, hsx.ia, hsl.len, hbx]; first | (refine Gc_true (hA ?_); clear hA hB A B) | (refine Gc_false (hB ?_); clear hA hB A B) | (refine Gc_some (fun hc => hA ?_) (fun hc => hB ?_) <;> clear hA hB A B <;> (try simp only [decide_eq_true_eq, decide_eq_false_iff_not, Bool.not_eq_true', Bool.not_eq_false', Int.not_lt, Int.not_le, Bool.not_true, Bool.not_false, Bool.true_eq_false, Bool.false_eq_true, Decidable.not_not] at hc)))) | (refine GR.mk ?_; simp only [gresults, Tr.get_set, Option.bind_some, Nat.reduceEqDiff, if_true, if_false, reduceIte, gld_1, gld_n, g25, f1, f2, f22, f23, f24, hsx.len, hsx.ia, hsl.len, hbx]; refine ⟨_, rfl, ?_⟩; simp only [gone]))
  case refine_1.refine_1.refine_1 h1 =>
    refine hPost _ _ ⟨?_, hS⟩
    rw [hF, if_pos (any_first (j := j) (by omega) ?_)]
    rw [offX, decide_eq_true hc]; rfl
  case refine_1.refine_1.refine_2.refine_1 h1 h2 =>
    refine hPost _ _ ⟨?_, hS⟩
    rw [hF, if_pos (any_first (j := j) (by omega) ?_)]
    rw [offX, decide_eq_true hc, Bool.or_true]
  case refine_1.refine_1.refine_2.refine_2 h1 h2 =>
    refine hJ _ _ ⟨xs.length - (j + 1), by omega, rfl, j + 1, by omega, rfl, ?_⟩
    simp only [Tr.get_set, Nat.reduceEqDiff, if_true, if_false, reduceIte, Int.natCast_add, Int.cast_ofNat_Int, Int.natCast_zero, true_and, and_true, f1, f2, f22, f23]
    intro i hi
    rcases Nat.lt_succ_iff_lt_or_eq.1 hi with h | rfl
    · exact hEq i h
    · rw [offX, decide_eq_false (by omega), decide_eq_false (by omega)]; rfl
  case refine_1.refine_2 h1 =>
  have hoff : xs.any offX = false := any_none fun i hi => hEq i (by omega)
  rw [if_neg (by rw [hoff]; exact Bool.false_ne_true)] at hF
  have hxb : ∀ i, i < xs.length → -1152921504606846976 ≤ xs[i]! ∧ xs[i]! ≤ 1152921504606846976 := fun i hi => by
    have := hEq i (by omega)
    simp only [offX, Bool.or_eq_false_iff, decide_eq_false_iff_not] at this
    omega
  refine GW_loop (fun k fr H1 => Same H' H1 ∧ ∃ (j : Nat), j ≤ l.length ∧ k = l.length - j ∧ fr.get 2 = some (w) ∧ fr.get 35 = some (v) ∧ fr.get 36 = some (.int .i64 l.length) ∧ fr.get 37 = some (.int .i64 j) ∧ ∀ i, i < j → breaks xs l[i]! = false) ?_ l.length ?_
  case refine_2 =>
    refine ⟨Same.refl hS.wf, 0, by omega, by omega, ?_⟩
    simp only [Tr.get_set, Nat.reduceEqDiff, if_true, if_false, reduceIte, Int.natCast_add, Int.cast_ofNat_Int, Int.natCast_zero, true_and, and_true, f2]
    intro i hi; omega
  rintro k fr H1 ⟨hS1, j, hj, rfl, f2, f35, f36, f37, hEq⟩ J2 hJ2
  have hS2 := hS.trans hS1
  have hwl := hS1.wf.1
  have hbx : ∀ k : Nat, k < xs.length → H1.rd (blk w) (ofs w + k) = some (.int .i64 xs[k]!) := fun k hk => by
    rw [hS2.rd (hx.lt (by omega)), hx.rd (by rw [ints_length]; exact hk), ints_at hk]
  have hbd : ∀ k : Nat, k < l.length → H1.rdn (blk v) (ofs v + k * 6) 6 = some (bdv l[k]!) := fun k hk => by
    rw [hS2.rdn (hl.lt (by omega))]; exact hl.bd hk
  have hlt := hx.lt
  have hle := hS2.len
  have hvb : j < l.length → 0 ≤ l[j]!.I ∧ l[j]!.I < xs.length ∧ 0 ≤ l[j]!.J ∧ l[j]!.J < xs.length ∧ -1099511627776 ≤ l[j]!.C ∧ l[j]!.C ≤ 1099511627776 := fun h => by
    have := hV _ (List.getElem_mem h)
    rw [getElem!_pos l j h]; omega
  have hx1 : j < l.length → -1152921504606846976 ≤ xs[l[j]!.I.toNat]! ∧ xs[l[j]!.I.toNat]! ≤ 1152921504606846976 := fun h => hxb _ (by have := hvb h; omega)
  have hx2 : j < l.length → -1152921504606846976 ≤ xs[l[j]!.J.toNat]! ∧ xs[l[j]!.J.toNat]! ≤ 1152921504606846976 := fun h => hxb _ (by have := hvb h; omega)
  repeat' (first | refine GW_seq ?_ | refine GW_line ?_ | refine Gw_nil ?_ | refine GN_seq ?_ | refine GN_blk ?_ | refine GW_block ?_ | refine GW_skip ?_ | refine GW_exit ?_ | refine GX_seq ?_ | refine GX_blk ?_ | refine GX_up rfl ?_ | refine GX_inv ?_ | refine GW_ret ?_ | refine GN_inv ?_ | refine GN_nil ?_ | refine GW_any rfl ?_ | ((first | refine Gw_s fun K' hK' => ?_ | refine Gw_0 fun K' hK' => ?_ | intro K' hK'); (simp (disch := (first | (simp only [ints_length, List.length_set, List.length_cons, List.length_nil, len_put, len_add, lim_put, lim_add, flatV_int, flatV_bool, flatV_str, flatV_ptr, flatV_sl, List.all_cons, List.all_nil, Bool.and_self, List.size_toArray, Nat.reduceAdd, Nat.zero_add]; done) | omega | (simp only [ints_length, List.length_set, List.length_cons, List.length_nil, len_put, len_add, lim_put, lim_add, flatV_int, flatV_bool, flatV_str, flatV_ptr, flatV_sl, List.all_cons, List.all_nil, Bool.and_self, List.size_toArray, Nat.reduceAdd, Nat.zero_add] <;> omega) | fail)) only [gd_move, gd_pick, gd_alloc, gd_load, gd_bin, gd_un, gd_fa, gd_ia, gd_len, gd_lenOf, gd_store, gd_ix, gd_fld, gd_cap, gd_ext', gd_conv, gd_mk, gd_app, gd_copy, gd_next, gd_fn, gd_min, gd_max, gd_slice, gd_build, gd_buildSl, gd_box, gd_nilc', gd_rng, gd_appM, gM_move, gM_pick, gM_alloc, gM_load, gM_bin, gM_un, gM_fa, gM_ia, gM_len, gM_lenOf, gM_ix, gM_fld, gM_cap, gM_ext, gM_conv, gM_mk, gM_fn, gM_min, gM_max, gM_slice, gM_build, gM_buildSl, gM_box, gM_nilc, gM_rng, gM_appM, GArg.ev, evs, evOpt, Tr.get_set, Option.bind_some, Option.map_some, add_none, gb_lss, gb_gtr, gb_leq, gb_geq, gb_add, gb_sub, gb_mul, gb_eql', gb_neq', gu_not, gu_neg, gfold_min1, gfold_max1, wr_i64, wr_i32, wr_u8, wr_u16, wr_u32, glen_sl, glen_str, gadd_ptr, gld_1, gld_n, gst_1, gst_n, gset_ok, gsetn_all, rd_put_same, rd_put_ne, rd_add_eq, rd_add_ne, rdn_put_ne, rdn_add_ne, rdn_put_all, rdn_add_all, mine_put_same, mine_put_ne, mine_add_eq, mine_add_ne, len_put, len_add, lim_put, lim_add, ints_at, ints_set, ints_length, Option.map_map, List.getElem?_cons_zero, List.getElem?_cons_succ, List.length_cons, List.length_nil, List.length_set, List.size_toArray, Int.toNat_natCast, Nat.mul_one, Nat.add_zero, Nat.zero_add, ite_true, ite_false, if_true, if_false, Bool.false_eq_true, reduceIte, decide_true, decide_false, Bool.not_true, Bool.not_false, blk_sl, ofs_sl, Nat.reduceEqDiff, Nat.reduceAdd, Nat.reduceMul, reduceCtorEq, g25, f2, f35, f36, f37, hsx.len, hsx.ia, hsl.len, hsl.ia, hbx, hbd, bdv]; refine G1_go (hK' _ _ ?_); clear hK' K')) | ((first | refine Gw_gt fun A B hA hB => ?_ | refine Gw_gf fun A B hA hB => ?_ | refine GW_cond fun A B hA hB => ?_); (simp only [Tr.get_set, Nat.reduceEqDiff, if_true, if_false, reduceIte, g25, f2, f35, f36, f37, hsx.len, hsx.ia, hsl.len, hsl.ia, hbx, hbd, bdv]; first | (refine Gc_true (hA ?_); clear hA hB A B) | (refine Gc_false (hB ?_); clear hA hB A B) | (refine Gc_some (fun hc => hA ?_) (fun hc => hB ?_) <;> clear hA hB A B <;> (try simp only [decide_eq_true_eq, decide_eq_false_iff_not, Bool.not_eq_true', Bool.not_eq_false', Int.not_lt, Int.not_le, Bool.not_true, Bool.not_false, Bool.true_eq_false, Bool.false_eq_true, Decidable.not_not] at hc)))) | (refine GR.mk ?_; simp only [gresults, Tr.get_set, Option.bind_some, Nat.reduceEqDiff, if_true, if_false, reduceIte, gld_1, gld_n, g25, f2, f35, f36, f37, hsx.len, hsx.ia, hsl.len, hsl.ia, hbx, hbd, bdv]; refine ⟨_, rfl, ?_⟩; simp only [gone]))
  case refine_1.refine_1.refine_1 h1 h2 =>
    refine hPost _ _ ⟨?_, hS2.new _ _⟩
    rw [hF, if_pos (any_first (p := breaks xs) (j := j) (by omega) (decide_eq_true hc))]
  case refine_1.refine_1.refine_2 h1 h2 =>
    refine hJ2 _ _ ⟨l.length - (j + 1), by omega, hS1.new _ _, j + 1, by omega, rfl, ?_⟩
    simp only [Tr.get_set, Nat.reduceEqDiff, if_true, if_false, reduceIte, Int.natCast_add, Int.cast_ofNat_Int, Int.natCast_zero, true_and, and_true, f2, f35, f36]
    intro i hi
    rcases Nat.lt_succ_iff_lt_or_eq.1 hi with h | rfl
    · exact hEq i h
    · exact decide_eq_false (by omega)
  case refine_1.refine_2 h1 =>
    refine hPost _ _ ⟨?_, hS2⟩
    rw [hF, if_neg (by rw [any_none fun i hi => hEq i (by omega)]; exact Bool.false_ne_true)]
theorem raccept_ok {H : GHeap} (hw : H.wf) {v w : Value} {l : List Bd} (hl : GRd H 6 v l.length (Bds l)) {xs : List Int} (hx : GRd H 1 w xs.length (ints .i64 xs)) (n : Int) :
    ∃ r H', gev G 26 [.int .i64 n, v, w] H = some (r, H') ∧ (r = .int .i64 (acceptF n l xs) ∧ Same H H') := by
  refine gev_GW (f := 26) rfl fun Post hPost => ?_
  simp only [frameOf, Nat.reduceAdd]
  have hsl := hl.isSl
  have hsx := hx.isSl
  repeat' (first | refine GW_seq ?_ | refine GW_line ?_ | refine Gw_nil ?_ | refine GN_seq ?_ | refine GN_blk ?_ | refine GW_block ?_ | refine GW_skip ?_ | refine GW_exit ?_ | refine GX_seq ?_ | refine GX_blk ?_ | refine GX_up rfl ?_ | refine GX_inv ?_ | refine GW_ret ?_ | refine GN_inv ?_ | refine GN_nil ?_ | refine GW_any rfl ?_ | ((first | refine Gw_s fun K' hK' => ?_ | refine Gw_0 fun K' hK' => ?_ | intro K' hK'); (simp (disch := (first | (simp only [ints_length, List.length_set, List.length_cons, List.length_nil, len_put, len_add, lim_put, lim_add, flatV_int, flatV_bool, flatV_str, flatV_ptr, flatV_sl, List.all_cons, List.all_nil, Bool.and_self, List.size_toArray, Nat.reduceAdd, Nat.zero_add]; done) | omega | (simp only [ints_length, List.length_set, List.length_cons, List.length_nil, len_put, len_add, lim_put, lim_add, flatV_int, flatV_bool, flatV_str, flatV_ptr, flatV_sl, List.all_cons, List.all_nil, Bool.and_self, List.size_toArray, Nat.reduceAdd, Nat.zero_add] <;> omega) | fail)) only [gd_move, gd_pick, gd_alloc, gd_load, gd_bin, gd_un, gd_fa, gd_ia, gd_len, gd_lenOf, gd_store, gd_ix, gd_fld, gd_cap, gd_ext', gd_conv, gd_mk, gd_app, gd_copy, gd_next, gd_fn, gd_min, gd_max, gd_slice, gd_build, gd_buildSl, gd_box, gd_nilc', gd_rng, gd_appM, gM_move, gM_pick, gM_alloc, gM_load, gM_bin, gM_un, gM_fa, gM_ia, gM_len, gM_lenOf, gM_ix, gM_fld, gM_cap, gM_ext, gM_conv, gM_mk, gM_fn, gM_min, gM_max, gM_slice, gM_build, gM_buildSl, gM_box, gM_nilc, gM_rng, gM_appM, GArg.ev, evs, evOpt, Tr.get_set, Option.bind_some, Option.map_some, add_none, gb_lss, gb_gtr, gb_leq, gb_geq, gb_add, gb_sub, gb_mul, gb_eql', gb_neq', gu_not, gu_neg, gfold_min1, gfold_max1, wr_i64, wr_i32, wr_u8, wr_u16, wr_u32, glen_sl, glen_str, gadd_ptr, gld_1, gld_n, gst_1, gst_n, gset_ok, gsetn_all, rd_put_same, rd_put_ne, rd_add_eq, rd_add_ne, rdn_put_ne, rdn_add_ne, rdn_put_all, rdn_add_all, mine_put_same, mine_put_ne, mine_add_eq, mine_add_ne, len_put, len_add, lim_put, lim_add, ints_at, ints_set, ints_length, Option.map_map, List.getElem?_cons_zero, List.getElem?_cons_succ, List.length_cons, List.length_nil, List.length_set, List.size_toArray, Int.toNat_natCast, Nat.mul_one, Nat.add_zero, Nat.zero_add, ite_true, ite_false, if_true, if_false, Bool.false_eq_true, reduceIte, decide_true, decide_false, Bool.not_true, Bool.not_false, blk_sl, ofs_sl, Nat.reduceEqDiff, Nat.reduceAdd, Nat.reduceMul, reduceCtorEq, g26]; refine G1_go (hK' _ _ ?_); clear hK' K')) | ((first | refine Gw_gt fun A B hA hB => ?_ | refine Gw_gf fun A B hA hB => ?_ | refine GW_cond fun A B hA hB => ?_); (simp only [Tr.get_set, Nat.reduceEqDiff, if_true, if_false, reduceIte, g26]; first | (refine Gc_true (hA ?_); clear hA hB A B) | (refine Gc_false (hB ?_); clear hA hB A B) | (refine Gc_some (fun hc => hA ?_) (fun hc => hB ?_) <;> clear hA hB A B <;> (try simp only [decide_eq_true_eq, decide_eq_false_iff_not, Bool.not_eq_true', Bool.not_eq_false', Int.not_lt, Int.not_le, Bool.not_true, Bool.not_false, Bool.true_eq_false, Bool.false_eq_true, Decidable.not_not] at hc)))) | (refine GR.mk ?_; simp only [gresults, Tr.get_set, Option.bind_some, Nat.reduceEqDiff, if_true, if_false, reduceIte, gld_1, gld_n, g26]; refine ⟨_, rfl, ?_⟩; simp only [gone]))
  refine Gw_s fun K' hK' => G1_call (by simp only [gtarget, GArg.ev, evs, Tr.get_set, Nat.reduceEqDiff, if_true, if_false, reduceIte, Option.map_some]; rfl) (rcheck_ok hw hl n) fun r' H' hq => hK' _ _ ?_
  obtain ⟨rfl, hS⟩ := hq
  repeat' (first | refine GW_seq ?_ | refine GW_line ?_ | refine Gw_nil ?_ | refine GN_seq ?_ | refine GN_blk ?_ | refine GW_block ?_ | refine GW_skip ?_ | refine GW_exit ?_ | refine GX_seq ?_ | refine GX_blk ?_ | refine GX_up rfl ?_ | refine GX_inv ?_ | refine GW_ret ?_ | refine GN_inv ?_ | refine GN_nil ?_ | refine GW_any rfl ?_ | ((first | refine Gw_s fun K' hK' => ?_ | refine Gw_0 fun K' hK' => ?_ | intro K' hK'); (simp (disch := (first | (simp only [ints_length, List.length_set, List.length_cons, List.length_nil, len_put, len_add, lim_put, lim_add, flatV_int, flatV_bool, flatV_str, flatV_ptr, flatV_sl, List.all_cons, List.all_nil, Bool.and_self, List.size_toArray, Nat.reduceAdd, Nat.zero_add]; done) | omega | (simp only [ints_length, List.length_set, List.length_cons, List.length_nil, len_put, len_add, lim_put, lim_add, flatV_int, flatV_bool, flatV_str, flatV_ptr, flatV_sl, List.all_cons, List.all_nil, Bool.and_self, List.size_toArray, Nat.reduceAdd, Nat.zero_add] <;> omega) | fail)) only [gd_move, gd_pick, gd_alloc, gd_load, gd_bin, gd_un, gd_fa, gd_ia, gd_len, gd_lenOf, gd_store, gd_ix, gd_fld, gd_cap, gd_ext', gd_conv, gd_mk, gd_app, gd_copy, gd_next, gd_fn, gd_min, gd_max, gd_slice, gd_build, gd_buildSl, gd_box, gd_nilc', gd_rng, gd_appM, gM_move, gM_pick, gM_alloc, gM_load, gM_bin, gM_un, gM_fa, gM_ia, gM_len, gM_lenOf, gM_ix, gM_fld, gM_cap, gM_ext, gM_conv, gM_mk, gM_fn, gM_min, gM_max, gM_slice, gM_build, gM_buildSl, gM_box, gM_nilc, gM_rng, gM_appM, GArg.ev, evs, evOpt, Tr.get_set, Option.bind_some, Option.map_some, add_none, gb_lss, gb_gtr, gb_leq, gb_geq, gb_add, gb_sub, gb_mul, gb_eql', gb_neq', gu_not, gu_neg, gfold_min1, gfold_max1, wr_i64, wr_i32, wr_u8, wr_u16, wr_u32, glen_sl, glen_str, gadd_ptr, gld_1, gld_n, gst_1, gst_n, gset_ok, gsetn_all, rd_put_same, rd_put_ne, rd_add_eq, rd_add_ne, rdn_put_ne, rdn_add_ne, rdn_put_all, rdn_add_all, mine_put_same, mine_put_ne, mine_add_eq, mine_add_ne, len_put, len_add, lim_put, lim_add, ints_at, ints_set, ints_length, Option.map_map, List.getElem?_cons_zero, List.getElem?_cons_succ, List.length_cons, List.length_nil, List.length_set, List.size_toArray, Int.toNat_natCast, Nat.mul_one, Nat.add_zero, Nat.zero_add, ite_true, ite_false, if_true, if_false, Bool.false_eq_true, reduceIte, decide_true, decide_false, Bool.not_true, Bool.not_false, blk_sl, ofs_sl, Nat.reduceEqDiff, Nat.reduceAdd, Nat.reduceMul, reduceCtorEq, g26, hsx.len]; refine G1_go (hK' _ _ ?_); clear hK' K')) | ((first | refine Gw_gt fun A B hA hB => ?_ | refine Gw_gf fun A B hA hB => ?_ | refine GW_cond fun A B hA hB => ?_); (simp only [Tr.get_set, Nat.reduceEqDiff, if_true, if_false, reduceIte, g26, hsx.len]; first | (refine Gc_true (hA ?_); clear hA hB A B) | (refine Gc_false (hB ?_); clear hA hB A B) | (refine Gc_some (fun hc => hA ?_) (fun hc => hB ?_) <;> clear hA hB A B <;> (try simp only [decide_eq_true_eq, decide_eq_false_iff_not, Bool.not_eq_true', Bool.not_eq_false', Int.not_lt, Int.not_le, Bool.not_true, Bool.not_false, Bool.true_eq_false, Bool.false_eq_true, Decidable.not_not] at hc)))) | (refine GR.mk ?_; simp only [gresults, Tr.get_set, Option.bind_some, Nat.reduceEqDiff, if_true, if_false, reduceIte, gld_1, gld_n, g26, hsx.len]; refine ⟨_, rfl, ?_⟩; simp only [gone]))
  case refine_1 => exact hPost _ _ ⟨by rw [acceptF, if_pos hc], hS⟩
  case refine_2.refine_1 hc0 => exact hPost _ _ ⟨by rw [acceptF, if_neg (by omega), if_pos hc], hS⟩
  case refine_2.refine_2 hc0 =>
  have hF : acceptF n l xs = if xs.any offX then 2 else if l.any (breaks xs) then 16 else 0 := by rw [acceptF, if_neg (by omega), if_neg (by omega)]
  obtain ⟨hn1, hn2, hl4, hV⟩ := checkF_ok hc0
  refine GW_loop (fun k fr H1 => H' = H1 ∧ ∃ (j : Nat), j ≤ xs.length ∧ k = xs.length - j ∧ fr.get 1 = some (v) ∧ fr.get 2 = some (w) ∧ fr.get 22 = some (w) ∧ fr.get 23 = some (.int .i64 xs.length) ∧ fr.get 24 = some (.int .i64 j) ∧ ∀ i, i < j → offX xs[i]! = false) ?_ xs.length ?_
  case refine_2 =>
    refine ⟨rfl, 0, by omega, by omega, ?_⟩
    simp only [Tr.get_set, Nat.reduceEqDiff, if_true, if_false, reduceIte, Int.natCast_add, Int.cast_ofNat_Int, Int.natCast_zero, true_and, and_true]
    intro i hi; omega
  rintro k fr H1 ⟨hHH, j, hj, rfl, f1, f2, f22, f23, f24, hEq⟩ J hJ
  subst hHH
  have hbx : ∀ k : Nat, k < xs.length → H'.rd (blk w) (ofs w + k) = some (.int .i64 xs[k]!) := fun k hk => by
    rw [hS.rd (hx.lt (by omega)), hx.rd (by rw [ints_length]; exact hk), ints_at hk]
  repeat' (first | refine GW_seq ?_ | refine GW_line ?_ | refine Gw_nil ?_ | refine GN_seq ?_ | refine GN_blk ?_ | refine GW_block ?_ | refine GW_skip ?_ | refine GW_exit ?_ | refine GX_seq ?_ | refine GX_blk ?_ | refine GX_up rfl ?_ | refine GX_inv ?_ | refine GW_ret ?_ | refine GN_inv ?_ | refine GN_nil ?_ | refine GW_any rfl ?_ | ((first | refine Gw_s fun K' hK' => ?_ | refine Gw_0 fun K' hK' => ?_ | intro K' hK'); (simp (disch := (first | (simp only [ints_length, List.length_set, List.length_cons, List.length_nil, len_put, len_add, lim_put, lim_add, flatV_int, flatV_bool, flatV_str, flatV_ptr, flatV_sl, List.all_cons, List.all_nil, Bool.and_self, List.size_toArray, Nat.reduceAdd, Nat.zero_add]; done) | omega | (simp only [ints_length, List.length_set, List.length_cons, List.length_nil, len_put, len_add, lim_put, lim_add, flatV_int, flatV_bool, flatV_str, flatV_ptr, flatV_sl, List.all_cons, List.all_nil, Bool.and_self, List.size_toArray, Nat.reduceAdd, Nat.zero_add] <;> omega) | fail)) only [gd_move, gd_pick, gd_alloc, gd_load, gd_bin, gd_un, gd_fa, gd_ia, gd_len, gd_lenOf, gd_store, gd_ix, gd_fld, gd_cap, gd_ext', gd_conv, gd_mk, gd_app, gd_copy, gd_next, gd_fn, gd_min, gd_max, gd_slice, gd_build, gd_buildSl, gd_box, gd_nilc', gd_rng, gd_appM, gM_move, gM_pick, gM_alloc, gM_load, gM_bin, gM_un, gM_fa, gM_ia, gM_len, gM_lenOf, gM_ix, gM_fld, gM_cap, gM_ext, gM_conv, gM_mk, gM_fn, gM_min, gM_max, gM_slice, gM_build, gM_buildSl, gM_box, gM_nilc, gM_rng, gM_appM, GArg.ev, evs, evOpt, Tr.get_set, Option.bind_some, Option.map_some, add_none, gb_lss, gb_gtr, gb_leq, gb_geq, gb_add, gb_sub, gb_mul, gb_eql', gb_neq', gu_not, gu_neg, gfold_min1, gfold_max1, wr_i64, wr_i32, wr_u8, wr_u16, wr_u32, glen_sl, glen_str, gadd_ptr, gld_1, gld_n, gst_1, gst_n, gset_ok, gsetn_all, rd_put_same, rd_put_ne, rd_add_eq, rd_add_ne, rdn_put_ne, rdn_add_ne, rdn_put_all, rdn_add_all, mine_put_same, mine_put_ne, mine_add_eq, mine_add_ne, len_put, len_add, lim_put, lim_add, ints_at, ints_set, ints_length, Option.map_map, List.getElem?_cons_zero, List.getElem?_cons_succ, List.length_cons, List.length_nil, List.length_set, List.size_toArray, Int.toNat_natCast, Nat.mul_one, Nat.add_zero, Nat.zero_add, ite_true, ite_false, if_true, if_false, Bool.false_eq_true, reduceIte, decide_true, decide_false, Bool.not_true, Bool.not_false, blk_sl, ofs_sl, Nat.reduceEqDiff, Nat.reduceAdd, Nat.reduceMul, reduceCtorEq, g26, f1, f2, f22, f23, f24, hsx.len, hsx.ia, hsl.len, hbx]; refine G1_go (hK' _ _ ?_); clear hK' K')) | ((first | refine Gw_gt fun A B hA hB => ?_ | refine Gw_gf fun A B hA hB => ?_ | refine GW_cond fun A B hA hB => ?_); (simp only [Tr.get_set, Nat.reduceEqDiff, if_true, if_false, reduceIte, g26, f1, f2, f22, f23, f24, hsx.len, hsx.ia, hsl.len, hbx]; first | (refine Gc_true (hA ?_); clear hA hB A B) | (refine Gc_false (hB ?_); clear hA hB A B) | (refine Gc_some (fun hc => hA ?_) (fun hc => hB ?_) <;> clear hA hB A B <;> (try simp only [decide_eq_true_eq, decide_eq_false_iff_not, Bool.not_eq_true', Bool.not_eq_false', Int.not_lt, Int.not_le, Bool.not_true, Bool.not_false, Bool.true_eq_false, Bool.false_eq_true, Decidable.not_not] at hc)))) | (refine GR.mk ?_; simp only [gresults, Tr.get_set, Option.bind_some, Nat.reduceEqDiff, if_true, if_false, reduceIte, gld_1, gld_n, g26, f1, f2, f22, f23, f24, hsx.len, hsx.ia, hsl.len, hbx]; refine ⟨_, rfl, ?_⟩; simp only [gone]))
  case refine_1.refine_1.refine_1 h1 =>
    refine hPost _ _ ⟨?_, hS⟩
    rw [hF, if_pos (any_first (j := j) (by omega) ?_)]
    rw [offX, decide_eq_true hc]; rfl
  case refine_1.refine_1.refine_2.refine_1 h1 h2 =>
    refine hPost _ _ ⟨?_, hS⟩
    rw [hF, if_pos (any_first (j := j) (by omega) ?_)]
    rw [offX, decide_eq_true hc, Bool.or_true]
  case refine_1.refine_1.refine_2.refine_2 h1 h2 =>
    refine hJ _ _ ⟨xs.length - (j + 1), by omega, rfl, j + 1, by omega, rfl, ?_⟩
    simp only [Tr.get_set, Nat.reduceEqDiff, if_true, if_false, reduceIte, Int.natCast_add, Int.cast_ofNat_Int, Int.natCast_zero, true_and, and_true, f1, f2, f22, f23]
    intro i hi
    rcases Nat.lt_succ_iff_lt_or_eq.1 hi with h | rfl
    · exact hEq i h
    · rw [offX, decide_eq_false (by omega), decide_eq_false (by omega)]; rfl
  case refine_1.refine_2 h1 =>
  have hoff : xs.any offX = false := any_none fun i hi => hEq i (by omega)
  rw [if_neg (by rw [hoff]; exact Bool.false_ne_true)] at hF
  have hxb : ∀ i, i < xs.length → -1152921504606846976 ≤ xs[i]! ∧ xs[i]! ≤ 1152921504606846976 := fun i hi => by
    have := hEq i (by omega)
    simp only [offX, Bool.or_eq_false_iff, decide_eq_false_iff_not] at this
    omega
  refine GW_loop (fun k fr H1 => Same H' H1 ∧ ∃ (j : Nat), j ≤ l.length ∧ k = l.length - j ∧ fr.get 2 = some (w) ∧ fr.get 35 = some (v) ∧ fr.get 36 = some (.int .i64 l.length) ∧ fr.get 37 = some (.int .i64 j) ∧ ∀ i, i < j → breaks xs l[i]! = false) ?_ l.length ?_
  case refine_2 =>
    refine ⟨Same.refl hS.wf, 0, by omega, by omega, ?_⟩
    simp only [Tr.get_set, Nat.reduceEqDiff, if_true, if_false, reduceIte, Int.natCast_add, Int.cast_ofNat_Int, Int.natCast_zero, true_and, and_true, f2]
    intro i hi; omega
  rintro k fr H1 ⟨hS1, j, hj, rfl, f2, f35, f36, f37, hEq⟩ J2 hJ2
  have hS2 := hS.trans hS1
  have hwl := hS1.wf.1
  have hbx : ∀ k : Nat, k < xs.length → H1.rd (blk w) (ofs w + k) = some (.int .i64 xs[k]!) := fun k hk => by
    rw [hS2.rd (hx.lt (by omega)), hx.rd (by rw [ints_length]; exact hk), ints_at hk]
  have hbd : ∀ k : Nat, k < l.length → H1.rdn (blk v) (ofs v + k * 6) 6 = some (bdv l[k]!) := fun k hk => by
    rw [hS2.rdn (hl.lt (by omega))]; exact hl.bd hk
  have hlt := hx.lt
  have hle := hS2.len
  have hvb : j < l.length → 0 ≤ l[j]!.I ∧ l[j]!.I < xs.length ∧ 0 ≤ l[j]!.J ∧ l[j]!.J < xs.length ∧ -1099511627776 ≤ l[j]!.C ∧ l[j]!.C ≤ 1099511627776 := fun h => by
    have := hV _ (List.getElem_mem h)
    rw [getElem!_pos l j h]; omega
  have hx1 : j < l.length → -1152921504606846976 ≤ xs[l[j]!.I.toNat]! ∧ xs[l[j]!.I.toNat]! ≤ 1152921504606846976 := fun h => hxb _ (by have := hvb h; omega)
  have hx2 : j < l.length → -1152921504606846976 ≤ xs[l[j]!.J.toNat]! ∧ xs[l[j]!.J.toNat]! ≤ 1152921504606846976 := fun h => hxb _ (by have := hvb h; omega)
  repeat' (first | refine GW_seq ?_ | refine GW_line ?_ | refine Gw_nil ?_ | refine GN_seq ?_ | refine GN_blk ?_ | refine GW_block ?_ | refine GW_skip ?_ | refine GW_exit ?_ | refine GX_seq ?_ | refine GX_blk ?_ | refine GX_up rfl ?_ | refine GX_inv ?_ | refine GW_ret ?_ | refine GN_inv ?_ | refine GN_nil ?_ | refine GW_any rfl ?_ | ((first | refine Gw_s fun K' hK' => ?_ | refine Gw_0 fun K' hK' => ?_ | intro K' hK'); (simp (disch := (first | (simp only [ints_length, List.length_set, List.length_cons, List.length_nil, len_put, len_add, lim_put, lim_add, flatV_int, flatV_bool, flatV_str, flatV_ptr, flatV_sl, List.all_cons, List.all_nil, Bool.and_self, List.size_toArray, Nat.reduceAdd, Nat.zero_add]; done) | omega | (simp only [ints_length, List.length_set, List.length_cons, List.length_nil, len_put, len_add, lim_put, lim_add, flatV_int, flatV_bool, flatV_str, flatV_ptr, flatV_sl, List.all_cons, List.all_nil, Bool.and_self, List.size_toArray, Nat.reduceAdd, Nat.zero_add] <;> omega) | fail)) only [gd_move, gd_pick, gd_alloc, gd_load, gd_bin, gd_un, gd_fa, gd_ia, gd_len, gd_lenOf, gd_store, gd_ix, gd_fld, gd_cap, gd_ext', gd_conv, gd_mk, gd_app, gd_copy, gd_next, gd_fn, gd_min, gd_max, gd_slice, gd_build, gd_buildSl, gd_box, gd_nilc', gd_rng, gd_appM, gM_move, gM_pick, gM_alloc, gM_load, gM_bin, gM_un, gM_fa, gM_ia, gM_len, gM_lenOf, gM_ix, gM_fld, gM_cap, gM_ext, gM_conv, gM_mk, gM_fn, gM_min, gM_max, gM_slice, gM_build, gM_buildSl, gM_box, gM_nilc, gM_rng, gM_appM, GArg.ev, evs, evOpt, Tr.get_set, Option.bind_some, Option.map_some, add_none, gb_lss, gb_gtr, gb_leq, gb_geq, gb_add, gb_sub, gb_mul, gb_eql', gb_neq', gu_not, gu_neg, gfold_min1, gfold_max1, wr_i64, wr_i32, wr_u8, wr_u16, wr_u32, glen_sl, glen_str, gadd_ptr, gld_1, gld_n, gst_1, gst_n, gset_ok, gsetn_all, rd_put_same, rd_put_ne, rd_add_eq, rd_add_ne, rdn_put_ne, rdn_add_ne, rdn_put_all, rdn_add_all, mine_put_same, mine_put_ne, mine_add_eq, mine_add_ne, len_put, len_add, lim_put, lim_add, ints_at, ints_set, ints_length, Option.map_map, List.getElem?_cons_zero, List.getElem?_cons_succ, List.length_cons, List.length_nil, List.length_set, List.size_toArray, Int.toNat_natCast, Nat.mul_one, Nat.add_zero, Nat.zero_add, ite_true, ite_false, if_true, if_false, Bool.false_eq_true, reduceIte, decide_true, decide_false, Bool.not_true, Bool.not_false, blk_sl, ofs_sl, Nat.reduceEqDiff, Nat.reduceAdd, Nat.reduceMul, reduceCtorEq, g26, f2, f35, f36, f37, hsx.len, hsx.ia, hsl.len, hsl.ia, hbx, hbd, bdv]; refine G1_go (hK' _ _ ?_); clear hK' K')) | ((first | refine Gw_gt fun A B hA hB => ?_ | refine Gw_gf fun A B hA hB => ?_ | refine GW_cond fun A B hA hB => ?_); (simp only [Tr.get_set, Nat.reduceEqDiff, if_true, if_false, reduceIte, g26, f2, f35, f36, f37, hsx.len, hsx.ia, hsl.len, hsl.ia, hbx, hbd, bdv]; first | (refine Gc_true (hA ?_); clear hA hB A B) | (refine Gc_false (hB ?_); clear hA hB A B) | (refine Gc_some (fun hc => hA ?_) (fun hc => hB ?_) <;> clear hA hB A B <;> (try simp only [decide_eq_true_eq, decide_eq_false_iff_not, Bool.not_eq_true', Bool.not_eq_false', Int.not_lt, Int.not_le, Bool.not_true, Bool.not_false, Bool.true_eq_false, Bool.false_eq_true, Decidable.not_not] at hc)))) | (refine GR.mk ?_; simp only [gresults, Tr.get_set, Option.bind_some, Nat.reduceEqDiff, if_true, if_false, reduceIte, gld_1, gld_n, g26, f2, f35, f36, f37, hsx.len, hsx.ia, hsl.len, hsl.ia, hbx, hbd, bdv]; refine ⟨_, rfl, ?_⟩; simp only [gone]))
  case refine_1.refine_1.refine_1 h1 h2 =>
    refine hPost _ _ ⟨?_, hS2.new _ _⟩
    rw [hF, if_pos (any_first (p := breaks xs) (j := j) (by omega) (decide_eq_true hc))]
  case refine_1.refine_1.refine_2 h1 h2 =>
    refine hJ2 _ _ ⟨l.length - (j + 1), by omega, hS1.new _ _, j + 1, by omega, rfl, ?_⟩
    simp only [Tr.get_set, Nat.reduceEqDiff, if_true, if_false, reduceIte, Int.natCast_add, Int.cast_ofNat_Int, Int.natCast_zero, true_and, and_true, f2, f35, f36]
    intro i hi
    rcases Nat.lt_succ_iff_lt_or_eq.1 hi with h | rfl
    · exact hEq i h
    · exact decide_eq_false (by omega)
  case refine_1.refine_2 h1 =>
    refine hPost _ _ ⟨?_, hS2⟩
    rw [hF, if_neg (by rw [any_none fun i hi => hEq i (by omega)]; exact Bool.false_ne_true)]
end Go.Gh
