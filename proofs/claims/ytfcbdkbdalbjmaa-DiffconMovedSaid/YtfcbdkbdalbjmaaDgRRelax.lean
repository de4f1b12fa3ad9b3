/-
  relax of diffcon's reference, walked.
-/
import Derived.Test.YtfcbdkbdalbjmaaDgG
import Derived.Test.YtfcbdkbdalbjmaaDgF
namespace Go.Gh
set_option linter.unusedSimpArgs false
set_option linter.unusedVariables false
open Go.RowKit
set_option maxRecDepth 4000

theorem rrelax_ok {H : GHeap} (hw : H.wf) {v : Value} {l : List Bd} (hl : GRd H 6 v l.length (Bds l)) {n : Nat} (hv : Valid n l) {y : List Int} (hy : y.length = n) {t : Nat} (hb : Bnd t y) (ht : t + l.length ≤ 1000)
    {ix gc : Nat} (hix : H.mine ix = some (ints .i64 y, 1)) (hne : 0 < l.length → blk v ≠ ix) :
    ∃ r H', gev G 32 [v, .slice (some ⟨ix, 0, none⟩) n gc] H = some (r, H') ∧ (r = .bool (sweepC (l.map edge) y) ∧ Same (H.put ix (.cells (ints .i64 (sweepX (l.map edge) y)) 1 true)) H') := by
  refine gev_GW (f := 32) rfl fun Post hPost => ?_
  have hil := mine_lt hw hix
  have hlim := (mine_obj hix).1
  have hsl := hl.isSl
  have hsx : IsSl (.slice (some ⟨ix, 0, none⟩) n gc) n := ⟨_, _, rfl, fun _ => ⟨_, _, rfl⟩⟩
  simp only [frameOf, Nat.reduceAdd]
  repeat' (first | refine GW_seq ?_ | refine GW_line ?_ | refine Gw_nil ?_ | refine GN_seq ?_ | refine GN_blk ?_ | refine GW_block ?_ | refine GW_skip ?_ | refine GW_exit ?_ | refine GX_seq ?_ | refine GX_blk ?_ | refine GX_up rfl ?_ | refine GX_inv ?_ | refine GW_ret ?_ | refine GN_inv ?_ | refine GN_nil ?_ | refine GW_any rfl ?_ | refine Gp_nil ?_ | ((first | refine Gw_s fun K' hK' => ?_ | refine Gp_s fun K' hK' => ?_ | refine Gw_0 fun K' hK' => ?_ | intro K' hK'); (simp (disch := (first | (simp only [ints_length, List.length_set, List.length_cons, List.length_nil, List.length_replicate, len_put, len_add, lim_put, lim_add, flatV_int, flatV_bool, flatV_str, flatV_ptr, flatV_sl, List.all_cons, List.all_nil, Bool.and_self, List.size_toArray, Nat.reduceAdd, Nat.zero_add]; done) | omega | (simp only [ints_length, List.length_set, List.length_cons, List.length_nil, List.length_replicate, len_put, len_add, lim_put, lim_add, flatV_int, flatV_bool, flatV_str, flatV_ptr, flatV_sl, List.all_cons, List.all_nil, Bool.and_self, List.size_toArray, Nat.reduceAdd, Nat.zero_add] <;> omega) | fail)) only [↓gd_move, ↓gd_pick, ↓gd_alloc, ↓gd_load, ↓gd_bin, ↓gd_un, ↓gd_fa, ↓gd_ia, ↓gd_len, ↓gd_lenOf, ↓gd_store, ↓gd_ix, ↓gd_fld, ↓gd_cap, ↓gd_ext', ↓gd_conv, ↓gd_mk, ↓gd_app, ↓gd_copy, ↓gd_next, ↓gd_fn, ↓gd_min, ↓gd_max, ↓gd_slice, ↓gd_build, ↓gd_buildSl, ↓gd_box, ↓gd_nilc', ↓gd_rng, ↓gd_appM, ↓gM_move, ↓gM_pick, ↓gM_alloc, ↓gM_load, ↓gM_bin, ↓gM_un, ↓gM_fa, ↓gM_ia, ↓gM_len, ↓gM_lenOf, ↓gM_ix, ↓gM_fld, ↓gM_cap, ↓gM_ext, ↓gM_conv, ↓gM_mk, ↓gM_fn, ↓gM_min, ↓gM_max, ↓gM_slice, ↓gM_build, ↓gM_buildSl, ↓gM_box, ↓gM_nilc, ↓gM_rng, ↓gM_appM, ↓GArg.ev, ↓evs, ↓evOpt, ↓Tr.get_set, Option.bind_some, Option.map_some, add_none, gb_lss, gb_gtr, gb_leq, gb_geq, gb_add, gb_sub, gb_mul, gb_eql', gb_neq', gu_not, gu_neg, gfold_min1, gfold_max1, wr_i64, wr_i32, wr_u8, wr_u16, wr_u32, glen_sl, glen_str, gadd_ptr, gia_sl, gmake_sq, zeros_ints, zeros_sl, gld_1, gld_n, gst_1, gst_n, gset_ok, gsetn_all, rd_put_same, rd_put_ne, rd_add_eq, rd_add_ne, rdn_put_ne, rdn_add_ne, rdn_put_all, rdn_add_all, mine_put_same, mine_put_ne, mine_add_eq, mine_add_ne, len_put, len_add, lim_put, lim_add, ints_at, ints_set, ints_length, Option.map_map, List.getElem?_toArray, List.getElem?_cons_zero, List.getElem?_cons_succ, List.length_cons, List.length_nil, List.length_set, List.size_toArray, Int.toNat_natCast, Nat.mul_one, Nat.add_zero, Nat.zero_add, ite_true, ite_false, if_true, if_false, Bool.false_eq_true, ↓reduceIte, decide_true, decide_false, Bool.not_true, Bool.not_false, blk_sl, ofs_sl, Nat.reduceEqDiff, Nat.reduceAdd, Nat.reduceMul, reduceCtorEq, Int.reduceToNat, ↓evParts, fillL_1, fillL_0, List.replicate_zero, ints_nil, g32, hsl.len, hsx.len]; refine G1_go (hK' _ _ ?_); clear hK' K')) | ((first | refine Gw_dt fun A B C D hA hB hC hD => ?_ | refine Gw_df fun A B C D hA hB hC hD => ?_ | refine GW_cd fun A B C D hA hB hC hD => ?_); (simp only [↓Tr.get_set, Nat.reduceEqDiff, if_true, if_false, ↓reduceIte, g32, hsl.len, hsx.len]; first | (refine Gd_true (hA ?_); clear hA hB hC hD A B C D) | (refine Gd_false (hB ?_); clear hA hB hC hD A B C D) | (refine Gd_some (fun hc => hC ?_) (fun hc => hD ?_) <;> clear hA hB hC hD A B C D <;> (try simp only [decide_eq_true_eq, decide_eq_false_iff_not, Bool.not_eq_true', Bool.not_eq_false', Int.not_lt, Int.not_le, Bool.not_true, Bool.not_false, Bool.true_eq_false, Bool.false_eq_true, Decidable.not_not] at hc)))) | (refine GR.mk ?_; simp only [gresults, ↓Tr.get_set, Option.bind_some, Nat.reduceEqDiff, if_true, if_false, ↓reduceIte, gld_1, gld_n, g32, hsl.len, hsx.len]; refine ⟨_, rfl, ?_⟩; simp only [gone]))
  refine GW_loop (fun k fr H1 => ∃ (i : Nat), i ≤ l.length ∧ k = l.length - i ∧ fr.get 1 = some (.slice (some ⟨ix, 0, none⟩) n gc) ∧ fr.get 5 = some (.bool (sweepC ((l.take i).map edge) y)) ∧ fr.get 8 = some (v) ∧ fr.get 9 = some (.int .i64 l.length) ∧ fr.get 10 = some (.int .i64 i) ∧
    Same (H.put ix (.cells (ints .i64 (sweepX ((l.take i).map edge) y)) 1 true)) H1) ?_ l.length ?_
  case refine_2 =>
    refine ⟨0, by omega, by omega, ?_⟩
    simp only [↓Tr.get_set, Nat.reduceEqDiff, if_true, if_false, ↓reduceIte, Int.natCast_add, Int.cast_ofNat_Int, Int.natCast_zero, true_and, and_true, Option.some.injEq, Value.int.injEq]
    refine ⟨rfl, ?_⟩
    rw [show sweepX ((l.take 0).map edge) y = y from rfl, put_self (mine_obj hix).2]; exact Same.refl hw
  rintro k fr H1 ⟨i, hi, rfl, f1, f5, f8, f9, f10, hS1⟩ J2 hJ2
  have hil1 : ix < H1.len := Nat.lt_of_lt_of_le hil hS1.len
  have hlim1 : H1.lim ≤ ix := by rw [hS1.lim]; exact hlim
  have hmine := (hS1.mine hil).trans (mine_put_same hlim)
  have hwl := hS1.wf.1
  have hne' : i < l.length → blk v ≠ ix := fun h => hne (by omega)
  generalize hz : sweepX ((l.take i).map edge) y = z at *
  have hzl : z.length = n := by rw [← hz, sweepX_len, hy]
  have hrz := fun o => mine_rd (o := o) hmine
  have hbd : ∀ k : Nat, k < l.length → H1.rdn (blk v) (ofs v + k * 6) 6 = some (bdv l[k]!) := fun k hk => by
    rw [hS1.rdn (hl.lt (by omega)), rdn_put_ne (Ne.symm (hne (by omega)))]; exact hl.bd hk
  have hvb : i < l.length → 0 ≤ l[i]!.I ∧ l[i]!.I < n ∧ 0 ≤ l[i]!.J ∧ l[i]!.J < n ∧ -1099511627776 ≤ l[i]!.C ∧ l[i]!.C ≤ 1099511627776 := fun h => by
    rw [getElem!_pos l i h]; exact hv _ (List.getElem_mem h)
  have hzb : i < l.length → (-9000000000000000 ≤ z[l[i]!.I.toNat]! ∧ z[l[i]!.I.toNat]! ≤ 1152921504606846976) := fun h => by
    have hB : Bnd 1000 z := by
      rw [← hz]
      refine (sweepX_bnd _ _ (fun e he => ?_) hb).mono ?_
      · obtain ⟨b, hb, rfl⟩ := List.mem_map.1 he
        exact (hv _ (List.mem_of_mem_take hb)).2.2.2.2.1
      · rw [List.length_map, List.length_take]; omega
    have := hB.get l[i]!.I.toNat
    rw [gx_eq] at this
    simp only [far] at this
    omega
  repeat' (first | refine GW_seq ?_ | refine GW_line ?_ | refine Gw_nil ?_ | refine GN_seq ?_ | refine GN_blk ?_ | refine GW_block ?_ | refine GW_skip ?_ | refine GW_exit ?_ | refine GX_seq ?_ | refine GX_blk ?_ | refine GX_up rfl ?_ | refine GX_inv ?_ | refine GW_ret ?_ | refine GN_inv ?_ | refine GN_nil ?_ | refine GW_any rfl ?_ | refine Gp_nil ?_ | ((first | refine Gw_s fun K' hK' => ?_ | refine Gp_s fun K' hK' => ?_ | refine Gw_0 fun K' hK' => ?_ | intro K' hK'); (simp (disch := (first | (simp only [ints_length, List.length_set, List.length_cons, List.length_nil, List.length_replicate, len_put, len_add, lim_put, lim_add, flatV_int, flatV_bool, flatV_str, flatV_ptr, flatV_sl, List.all_cons, List.all_nil, Bool.and_self, List.size_toArray, Nat.reduceAdd, Nat.zero_add]; done) | omega | (simp only [ints_length, List.length_set, List.length_cons, List.length_nil, List.length_replicate, len_put, len_add, lim_put, lim_add, flatV_int, flatV_bool, flatV_str, flatV_ptr, flatV_sl, List.all_cons, List.all_nil, Bool.and_self, List.size_toArray, Nat.reduceAdd, Nat.zero_add] <;> omega) | fail)) only [↓gd_move, ↓gd_pick, ↓gd_alloc, ↓gd_load, ↓gd_bin, ↓gd_un, ↓gd_fa, ↓gd_ia, ↓gd_len, ↓gd_lenOf, ↓gd_store, ↓gd_ix, ↓gd_fld, ↓gd_cap, ↓gd_ext', ↓gd_conv, ↓gd_mk, ↓gd_app, ↓gd_copy, ↓gd_next, ↓gd_fn, ↓gd_min, ↓gd_max, ↓gd_slice, ↓gd_build, ↓gd_buildSl, ↓gd_box, ↓gd_nilc', ↓gd_rng, ↓gd_appM, ↓gM_move, ↓gM_pick, ↓gM_alloc, ↓gM_load, ↓gM_bin, ↓gM_un, ↓gM_fa, ↓gM_ia, ↓gM_len, ↓gM_lenOf, ↓gM_ix, ↓gM_fld, ↓gM_cap, ↓gM_ext, ↓gM_conv, ↓gM_mk, ↓gM_fn, ↓gM_min, ↓gM_max, ↓gM_slice, ↓gM_build, ↓gM_buildSl, ↓gM_box, ↓gM_nilc, ↓gM_rng, ↓gM_appM, ↓GArg.ev, ↓evs, ↓evOpt, ↓Tr.get_set, Option.bind_some, Option.map_some, add_none, gb_lss, gb_gtr, gb_leq, gb_geq, gb_add, gb_sub, gb_mul, gb_eql', gb_neq', gu_not, gu_neg, gfold_min1, gfold_max1, wr_i64, wr_i32, wr_u8, wr_u16, wr_u32, glen_sl, glen_str, gadd_ptr, gia_sl, gmake_sq, zeros_ints, zeros_sl, gld_1, gld_n, gst_1, gst_n, gset_ok, gsetn_all, rd_put_same, rd_put_ne, rd_add_eq, rd_add_ne, rdn_put_ne, rdn_add_ne, rdn_put_all, rdn_add_all, mine_put_same, mine_put_ne, mine_add_eq, mine_add_ne, len_put, len_add, lim_put, lim_add, ints_at, ints_set, ints_length, Option.map_map, List.getElem?_toArray, List.getElem?_cons_zero, List.getElem?_cons_succ, List.length_cons, List.length_nil, List.length_set, List.size_toArray, Int.toNat_natCast, Nat.mul_one, Nat.add_zero, Nat.zero_add, ite_true, ite_false, if_true, if_false, Bool.false_eq_true, ↓reduceIte, decide_true, decide_false, Bool.not_true, Bool.not_false, blk_sl, ofs_sl, Nat.reduceEqDiff, Nat.reduceAdd, Nat.reduceMul, reduceCtorEq, Int.reduceToNat, ↓evParts, fillL_1, fillL_0, List.replicate_zero, ints_nil, g32, f1, f5, f8, f9, f10, hsl.len, hsx.len, hsl.ia, hsx.ia, hbd, hrz, hmine, bdv]; refine G1_go (hK' _ _ ?_); clear hK' K')) | ((first | refine Gw_dt fun A B C D hA hB hC hD => ?_ | refine Gw_df fun A B C D hA hB hC hD => ?_ | refine GW_cd fun A B C D hA hB hC hD => ?_); (simp only [↓Tr.get_set, Nat.reduceEqDiff, if_true, if_false, ↓reduceIte, g32, f1, f5, f8, f9, f10, hsl.len, hsx.len, hsl.ia, hsx.ia, hbd, hrz, hmine, bdv]; first | (refine Gd_true (hA ?_); clear hA hB hC hD A B C D) | (refine Gd_false (hB ?_); clear hA hB hC hD A B C D) | (refine Gd_some (fun hc => hC ?_) (fun hc => hD ?_) <;> clear hA hB hC hD A B C D <;> (try simp only [decide_eq_true_eq, decide_eq_false_iff_not, Bool.not_eq_true', Bool.not_eq_false', Int.not_lt, Int.not_le, Bool.not_true, Bool.not_false, Bool.true_eq_false, Bool.false_eq_true, Decidable.not_not] at hc)))) | (refine GR.mk ?_; simp only [gresults, ↓Tr.get_set, Option.bind_some, Nat.reduceEqDiff, if_true, if_false, ↓reduceIte, gld_1, gld_n, g32, f1, f5, f8, f9, f10, hsl.len, hsx.len, hsl.ia, hsx.ia, hbd, hrz, hmine, bdv]; refine ⟨_, rfl, ?_⟩; simp only [gone]))
  case refine_1.refine_1.refine_1.refine_1 h0 h1 =>
    obtain ⟨e1, e2⟩ := step_yes (by omega) hc
    refine hJ2 _ _ ⟨l.length - (i + 1), by omega, i + 1, by omega, rfl, ?_⟩
    simp only [↓Tr.get_set, Nat.reduceEqDiff, if_true, if_false, ↓reduceIte, Int.natCast_add, Int.cast_ofNat_Int, Int.natCast_zero, true_and, and_true, Option.some.injEq, Value.int.injEq, f1, f8, f9]
    rw [take_next (by omega), sweepC_snoc, hz, decide_eq_true e1, Bool.or_true, sweepX_snoc, hz, e2]
    exact ⟨rfl, ((hS1.new _ _)).put_both hil⟩
  case refine_1.refine_1.refine_1.refine_2 h0 h1 =>
    obtain ⟨e1, e2⟩ := step_no (.inr hc)
    refine hJ2 _ _ ⟨l.length - (i + 1), by omega, i + 1, by omega, rfl, ?_⟩
    simp only [↓Tr.get_set, Nat.reduceEqDiff, if_true, if_false, ↓reduceIte, Int.natCast_add, Int.cast_ofNat_Int, Int.natCast_zero, true_and, and_true, Option.some.injEq, Value.int.injEq, f1, f5, f8, f9]
    rw [take_next (by omega), sweepC_snoc, hz, decide_eq_false e1, Bool.or_false, sweepX_snoc, hz, e2]
    exact ⟨rfl, hS1.new _ _⟩
  case refine_1.refine_1.refine_2 h0 =>
    have hfar := hzb (by omega)
    obtain ⟨e1, e2⟩ := step_no (z := z) (b := l[i]!) (.inl (by omega))
    refine hJ2 _ _ ⟨l.length - (i + 1), by omega, i + 1, by omega, rfl, ?_⟩
    simp only [↓Tr.get_set, Nat.reduceEqDiff, if_true, if_false, ↓reduceIte, Int.natCast_add, Int.cast_ofNat_Int, Int.natCast_zero, true_and, and_true, Option.some.injEq, Value.int.injEq, f1, f5, f8, f9]
    rw [take_next (by omega), sweepC_snoc, hz, decide_eq_false e1, Bool.or_false, sweepX_snoc, hz, e2]
    exact ⟨rfl, hS1.new _ _⟩
  case refine_1.refine_2 =>
    obtain rfl : i = l.length := by omega
    rw [List.take_length] at hz
    refine hPost _ _ ⟨by rw [List.take_length], ?_⟩
    rw [hz]; exact hS1
end Go.Gh
