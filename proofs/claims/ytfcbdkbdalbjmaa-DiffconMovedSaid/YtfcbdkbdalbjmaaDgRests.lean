/-
  rests of diffcon, walked.
-/
import Derived.Test.YtfcbdkbdalbjmaaDgG
import Derived.Test.YtfcbdkbdalbjmaaDgRS
namespace Go.Gh
set_option linter.unusedSimpArgs false
set_option linter.unusedVariables false
open Go.RowKit
set_option maxRecDepth 4000

theorem list_set_self {l : List Int} {i : Nat} : l.set i l[i]! = l := by
  refine List.ext_getElem? fun j => ?_
  rw [List.getElem?_set]
  by_cases h : i = j
  · subst h
    by_cases h2 : i < l.length
    · rw [if_pos rfl, if_pos h2, getElem!_pos l i h2, List.getElem?_eq_getElem h2]
    · rw [if_pos rfl, if_neg h2, List.getElem?_eq_none (by omega)]
  · rw [if_neg h]
theorem pre1_min {prev d : List Int} {b : Bd} (h : ¬ prev[b.J.toNat]! = 1152921504606846976) : d.set b.I.toNat (min d[b.I.toNat]! (b.C + prev[b.J.toNat]!)) = pre1 prev d (edge b) := by
  unfold pre1
  simp only [gx_eq, edge]
  by_cases h2 : b.C + prev[b.J.toNat]! < d[b.I.toNat]!
  · rw [if_pos ⟨h, h2⟩, Int.min_eq_right (by omega)]
  · rw [if_neg (fun k => h2 k.2), Int.min_eq_left (by omega), list_set_self]
theorem pre1_no {prev d : List Int} {b : Bd} (h : prev[b.J.toNat]! = 1152921504606846976) : pre1 prev d (edge b) = d := by
  unfold pre1
  rw [if_neg]
  rintro ⟨h1, _⟩
  rw [gx_eq] at h1
  exact h1 h
theorem Valid.csm {n : Nat} {l : List Bd} (h : Valid n l) : Csm (l.map edge) := fun e he => by have := h.edges e he; omega
theorem Valid.nds {n : Nat} {l : List Bd} (h : Valid n l) : Nds n (l.map edge) := fun e he => by have := h.edges e he; omega
theorem Valid.sub {n : Nat} {l l' : List Bd} (h : Valid n l) (hs : ∀ b ∈ l', b ∈ l) : Valid n l' := fun b hb => h b (hs b hb)
theorem sml_at {t : Nat} {x : List Int} (h : Sml t x) (ht : t ≤ 1000) (i : Nat) : x[i]! = 1152921504606846976 ∨ (-1099511627776000 ≤ x[i]! ∧ x[i]! ≤ 1099511627776000) := by
  have := h.get i
  rw [gx_eq] at this
  rcases this with h | h
  · exact .inl h
  · right; constructor <;> omega
theorem drop_flat (l : List Bd) (k : Nat) : (Bds l).drop (k * 6) = Bds (l.drop k) := by
  induction l generalizing k with
  | nil => simp [Bds]
  | cons b l ih =>
    cases k with
    | zero => simp
    | succ k =>
      show (bcells b ++ Bds l).drop ((k + 1) * 6) = _
      rw [List.drop_append, List.drop_eq_nil_of_le (by simp [bcells]; omega), List.nil_append, List.drop_succ_cons, ← ih]
      congr 1
      simp [bcells]; omega
theorem take_next' {l : List Bd} {i : Nat} (h : i < l.length) : ((l.take (i + 1)).map edge) = (l.take i).map edge ++ [edge l[i]!] := take_next h

theorem rests_ok {H : GHeap} (hw : H.wf) {v : Value} {l : List Bd} (hl : GArg1 H 6 v l.length (Bds l)) {n : Nat} (hv : Valid n l) (hn1 : 1 ≤ n) (hn : n ≤ 16) (hll : l.length ≤ 16) {f s dst : Nat} (hf : f < l.length) (hs1 : 1 ≤ s) (hs : s ≤ 16) (hd : dst < n) :
    ∃ r H', gev G 34 [.int .i64 n, v, .int .i64 f, .int .i64 s, .int .i64 dst] H = some (r, H') ∧ (RowsOut H' r s n (preRows n ((l.drop (f + 1)).map edge) dst) ∧ Same H H') := by
  refine gev_GW (f := 34) rfl fun Post hPost => ?_
  have hlim := hw.1
  -- the bounds behind f
  obtain ⟨v2, hcut, hl2, hv2⟩ := hl.cut (k := .i64) (a := f + 1) (b := l.length) (by omega) (by omega) (by omega)
  have e1 : ((l.length : Int)).toNat - ((f : Int) + 1).toNat = (l.drop (f + 1)).length := by rw [List.length_drop]; omega
  have e2 : ((Bds l).drop (((f : Int) + 1).toNat * 6)).take ((l.drop (f + 1)).length * 6) = Bds (l.drop (f + 1)) := by
    rw [show ((f : Int) + 1).toNat = f + 1 from by omega, drop_flat, List.take_of_length_le (by rw [Bds_len]; omega)]
  rw [e1, e2] at hl2
  have hV2 : Valid n (l.drop (f + 1)) := hv.sub fun b hb => List.mem_of_mem_drop hb
  have hlen2 : (l.drop (f + 1)).length ≤ 16 := by rw [List.length_drop]; omega
  generalize hm2 : l.drop (f + 1) = m2 at *
  have hsm := preRows_sml n (m2.map edge) dst hV2.csm
  have hrl := preRows_len n (m2.map edge) dst
  have hp0 : preRows n (m2.map edge) dst 0 = (List.replicate n far).set dst 0 := rfl
  have hpS : ∀ r, preRows n (m2.map edge) dst (r + 1) = (m2.map edge).foldl (pre1 (preRows n (m2.map edge) dst r)) (List.replicate n far) := fun r => rfl
  generalize preRows n (m2.map edge) dst = rows at *
  simp only [frameOf, Nat.reduceAdd]
  repeat' (first | refine GW_seq ?_ | refine GW_line ?_ | refine Gw_nil ?_ | refine GN_seq ?_ | refine GN_blk ?_ | refine GW_block ?_ | refine GW_skip ?_ | refine GW_exit ?_ | refine GX_seq ?_ | refine GX_blk ?_ | refine GX_up rfl ?_ | refine GX_inv ?_ | refine GW_ret ?_ | refine GN_inv ?_ | refine GN_nil ?_ | refine GW_any rfl ?_ | refine Gp_nil ?_ | ((first | refine Gw_s fun K' hK' => ?_ | refine Gp_s fun K' hK' => ?_ | refine Gw_0 fun K' hK' => ?_ | intro K' hK'); (simp (disch := (first | (simp only [ints_length, List.length_set, List.length_cons, List.length_nil, List.length_replicate, len_put, len_add, lim_put, lim_add, flatV_int, flatV_bool, flatV_str, flatV_ptr, flatV_sl, List.all_cons, List.all_nil, Bool.and_self, List.size_toArray, Nat.reduceAdd, Nat.zero_add]; done) | omega | (simp only [ints_length, List.length_set, List.length_cons, List.length_nil, List.length_replicate, len_put, len_add, lim_put, lim_add, flatV_int, flatV_bool, flatV_str, flatV_ptr, flatV_sl, List.all_cons, List.all_nil, Bool.and_self, List.size_toArray, Nat.reduceAdd, Nat.zero_add] <;> omega) | fail)) only [↓gd_move, ↓gd_pick, ↓gd_alloc, ↓gd_load, ↓gd_bin, ↓gd_un, ↓gd_fa, ↓gd_ia, ↓gd_len, ↓gd_lenOf, ↓gd_store, ↓gd_ix, ↓gd_fld, ↓gd_cap, ↓gd_ext', ↓gd_conv, ↓gd_mk, ↓gd_app, ↓gd_copy, ↓gd_next, ↓gd_fn, ↓gd_min, ↓gd_max, ↓gd_slice, ↓gd_build, ↓gd_buildSl, ↓gd_box, ↓gd_nilc', ↓gd_rng, ↓gd_appM, ↓gM_move, ↓gM_pick, ↓gM_alloc, ↓gM_load, ↓gM_bin, ↓gM_un, ↓gM_fa, ↓gM_ia, ↓gM_len, ↓gM_lenOf, ↓gM_ix, ↓gM_fld, ↓gM_cap, ↓gM_ext, ↓gM_conv, ↓gM_mk, ↓gM_fn, ↓gM_min, ↓gM_max, ↓gM_slice, ↓gM_build, ↓gM_buildSl, ↓gM_box, ↓gM_nilc, ↓gM_rng, ↓gM_appM, ↓GArg.ev, ↓evs, ↓evOpt, ↓Tr.get_set, Option.bind_some, Option.map_some, add_none, gb_lss, gb_gtr, gb_leq, gb_geq, gb_add, gb_sub, gb_mul, gb_eql', gb_neq', gu_not, gu_neg, gfold_min1, gfold_max1, wr_i64, wr_i32, wr_u8, wr_u16, wr_u32, glen_sl, glen_str, gadd_ptr, gia_sl, gmake_sq, zeros_ints, zeros_sl, gld_1, gld_n, gst_1, gst_n, gset_ok, gsetn_all, rd_put_same, rd_put_ne, rd_add_eq, rd_add_ne, rdn_put_ne, rdn_add_ne, rdn_put_all, rdn_add_all, mine_put_same, mine_put_ne, mine_add_eq, mine_add_ne, len_put, len_add, lim_put, lim_add, ints_at, ints_set, ints_length, Option.map_map, List.getElem?_toArray, List.getElem?_cons_zero, List.getElem?_cons_succ, List.length_cons, List.length_nil, List.length_set, List.size_toArray, Int.toNat_natCast, Nat.mul_one, Nat.add_zero, Nat.zero_add, ite_true, ite_false, if_true, if_false, Bool.false_eq_true, ↓reduceIte, decide_true, decide_false, Bool.not_true, Bool.not_false, blk_sl, ofs_sl, Nat.reduceEqDiff, Nat.reduceAdd, Nat.reduceMul, reduceCtorEq, Int.reduceToNat, ↓evParts, fillL_1, fillL_0, List.replicate_zero, ints_nil, g34]; refine G1_go (hK' _ _ ?_); clear hK' K')) | ((first | refine Gw_dt fun A B C D hA hB hC hD => ?_ | refine Gw_df fun A B C D hA hB hC hD => ?_ | refine GW_cd fun A B C D hA hB hC hD => ?_); (simp only [↓Tr.get_set, Nat.reduceEqDiff, if_true, if_false, ↓reduceIte, g34]; first | (refine Gd_true (hA ?_); clear hA hB hC hD A B C D) | (refine Gd_false (hB ?_); clear hA hB hC hD A B C D) | (refine Gd_some (fun hc => hC ?_) (fun hc => hD ?_) <;> clear hA hB hC hD A B C D <;> (try simp only [decide_eq_true_eq, decide_eq_false_iff_not, Bool.not_eq_true', Bool.not_eq_false', Int.not_lt, Int.not_le, Bool.not_true, Bool.not_false, Bool.true_eq_false, Bool.false_eq_true, Decidable.not_not] at hc)))) | (refine GR.mk ?_; simp only [gresults, ↓Tr.get_set, Option.bind_some, Nat.reduceEqDiff, if_true, if_false, ↓reduceIte, gld_1, gld_n, g34]; refine ⟨_, rfl, ?_⟩; simp only [gone]))
  -- the table
  refine GW_loop (fun k fr H1 => ∃ (r : Nat) (ids : List Nat), r ≤ s ∧ k = s - r ∧ ids.length = r ∧ fr.get 0 = some (.int .i64 n) ∧ fr.get 1 = some (v) ∧ fr.get 2 = some (.int .i64 f) ∧ fr.get 4 = some (.int .i64 dst) ∧ fr.get 11 = some (.slice (some ⟨H.len, 0, none⟩) s (s + 1)) ∧ fr.get 19 = some (.int .i64 s) ∧ fr.get 20 = some (.int .i64 r) ∧ RS H H1 H.len s n ids rows) ?_ s ?_
  case refine_2 =>
    refine ⟨0, [], by omega, by omega, rfl, ?_⟩
    simp only [↓Tr.get_set, Nat.reduceEqDiff, if_true, if_false, ↓reduceIte, Int.natCast_add, Int.cast_ofNat_Int, Int.natCast_zero, true_and, and_true, Option.some.injEq, Value.int.injEq]
    refine ⟨(Same.refl hw).add _, Nat.le_refl _, Nat.lt_succ_self _, by simp, ?_, by simp, by simp, by simp⟩
    rw [tab_nil]; exact mine_add_eq rfl hlim
  rintro k fr H1 ⟨r, ids, hr, rfl, hids, f0, f1, f2, f4, f11, f19, f20, hRS⟩ J hJ
  have hS1 := hRS.same
  have hlim1 : H1.lim ≤ H1.len := hS1.wf.1
  have hout := hRS.out
  have hio2 := hRS.io2
  have hset : r < s → gset (tab s ids n) r (.slice (some ⟨H1.len, 0, none⟩) n (n + 1)) = some (tab s (ids ++ [H1.len]) n) := fun h => by
    rw [gset_ok (by rw [tab_len]; exact h) flatV_sl, ← hids]
    exact congrArg some (tab_snoc (by omega))
  have hget : ∀ x, r < s → (tab s (ids ++ [x]) n)[r]? = some (.slice (some ⟨x, 0, none⟩) n (n + 1)) := fun x h => by
    rw [tab_get h (by simp; omega), ← hids, snoc_last]
  repeat' (first | refine GW_seq ?_ | refine GW_line ?_ | refine Gw_nil ?_ | refine GN_seq ?_ | refine GN_blk ?_ | refine GW_block ?_ | refine GW_skip ?_ | refine GW_exit ?_ | refine GX_seq ?_ | refine GX_blk ?_ | refine GX_up rfl ?_ | refine GX_inv ?_ | refine GW_ret ?_ | refine GN_inv ?_ | refine GN_nil ?_ | refine GW_any rfl ?_ | refine Gp_nil ?_ | ((first | refine Gw_s fun K' hK' => ?_ | refine Gp_s fun K' hK' => ?_ | refine Gw_0 fun K' hK' => ?_ | intro K' hK'); (simp (disch := (first | (simp only [ints_length, List.length_set, List.length_cons, List.length_nil, List.length_replicate, len_put, len_add, lim_put, lim_add, flatV_int, flatV_bool, flatV_str, flatV_ptr, flatV_sl, List.all_cons, List.all_nil, Bool.and_self, List.size_toArray, Nat.reduceAdd, Nat.zero_add]; done) | omega | (simp only [ints_length, List.length_set, List.length_cons, List.length_nil, List.length_replicate, len_put, len_add, lim_put, lim_add, flatV_int, flatV_bool, flatV_str, flatV_ptr, flatV_sl, List.all_cons, List.all_nil, Bool.and_self, List.size_toArray, Nat.reduceAdd, Nat.zero_add] <;> omega) | fail)) only [↓gd_move, ↓gd_pick, ↓gd_alloc, ↓gd_load, ↓gd_bin, ↓gd_un, ↓gd_fa, ↓gd_ia, ↓gd_len, ↓gd_lenOf, ↓gd_store, ↓gd_ix, ↓gd_fld, ↓gd_cap, ↓gd_ext', ↓gd_conv, ↓gd_mk, ↓gd_app, ↓gd_copy, ↓gd_next, ↓gd_fn, ↓gd_min, ↓gd_max, ↓gd_slice, ↓gd_build, ↓gd_buildSl, ↓gd_box, ↓gd_nilc', ↓gd_rng, ↓gd_appM, ↓gM_move, ↓gM_pick, ↓gM_alloc, ↓gM_load, ↓gM_bin, ↓gM_un, ↓gM_fa, ↓gM_ia, ↓gM_len, ↓gM_lenOf, ↓gM_ix, ↓gM_fld, ↓gM_cap, ↓gM_ext, ↓gM_conv, ↓gM_mk, ↓gM_fn, ↓gM_min, ↓gM_max, ↓gM_slice, ↓gM_build, ↓gM_buildSl, ↓gM_box, ↓gM_nilc, ↓gM_rng, ↓gM_appM, ↓GArg.ev, ↓evs, ↓evOpt, ↓Tr.get_set, Option.bind_some, Option.map_some, add_none, gb_lss, gb_gtr, gb_leq, gb_geq, gb_add, gb_sub, gb_mul, gb_eql', gb_neq', gu_not, gu_neg, gfold_min1, gfold_max1, wr_i64, wr_i32, wr_u8, wr_u16, wr_u32, glen_sl, glen_str, gadd_ptr, gia_sl, gmake_sq, zeros_ints, zeros_sl, gld_1, gld_n, gst_1, gst_n, gset_ok, gsetn_all, rd_put_same, rd_put_ne, rd_add_eq, rd_add_ne, rdn_put_ne, rdn_add_ne, rdn_put_all, rdn_add_all, mine_put_same, mine_put_ne, mine_add_eq, mine_add_ne, len_put, len_add, lim_put, lim_add, ints_at, ints_set, ints_length, Option.map_map, List.getElem?_toArray, List.getElem?_cons_zero, List.getElem?_cons_succ, List.length_cons, List.length_nil, List.length_set, List.size_toArray, Int.toNat_natCast, Nat.mul_one, Nat.add_zero, Nat.zero_add, ite_true, ite_false, if_true, if_false, Bool.false_eq_true, ↓reduceIte, decide_true, decide_false, Bool.not_true, Bool.not_false, blk_sl, ofs_sl, Nat.reduceEqDiff, Nat.reduceAdd, Nat.reduceMul, reduceCtorEq, Int.reduceToNat, ↓evParts, fillL_1, fillL_0, List.replicate_zero, ints_nil, g34, f0, f1, f2, f4, f11, f19, f20, hout, hset, hget]; refine G1_go (hK' _ _ ?_); clear hK' K')) | ((first | refine Gw_dt fun A B C D hA hB hC hD => ?_ | refine Gw_df fun A B C D hA hB hC hD => ?_ | refine GW_cd fun A B C D hA hB hC hD => ?_); (simp only [↓Tr.get_set, Nat.reduceEqDiff, if_true, if_false, ↓reduceIte, g34, f0, f1, f2, f4, f11, f19, f20, hout, hset, hget]; first | (refine Gd_true (hA ?_); clear hA hB hC hD A B C D) | (refine Gd_false (hB ?_); clear hA hB hC hD A B C D) | (refine Gd_some (fun hc => hC ?_) (fun hc => hD ?_) <;> clear hA hB hC hD A B C D <;> (try simp only [decide_eq_true_eq, decide_eq_false_iff_not, Bool.not_eq_true', Bool.not_eq_false', Int.not_lt, Int.not_le, Bool.not_true, Bool.not_false, Bool.true_eq_false, Bool.false_eq_true, Decidable.not_not] at hc)))) | (refine GR.mk ?_; simp only [gresults, ↓Tr.get_set, Option.bind_some, Nat.reduceEqDiff, if_true, if_false, ↓reduceIte, gld_1, gld_n, g34, f0, f1, f2, f4, f11, f19, f20, hout, hset, hget]; refine ⟨_, rfl, ?_⟩; simp only [gone]))
  case refine_1.refine_2 => exact hPost _ _ ⟨hRS.out_ (by omega) _, hS1⟩
  case refine_1.refine_1 =>
  have hr1 : r < s := by omega
  have hRS2 := hRS.snoc (by omega) (List.replicate n 0)
  generalize (H1.add (some (.cells (ints .i64 (List.replicate n 0)) 1 true))).put H.len (.cells (tab s (ids ++ [H1.len]) n) 1 true) = H2 at hRS2 ⊢
  have hids2 : (ids ++ [H1.len]).length = r + 1 := by simp [hids]
  have hx : H1.len = (ids ++ [H1.len])[r]! := by rw [← hids, snoc_last]
  generalize hi2 : ids ++ [H1.len] = ids2 at *
  rw [hids] at hRS2
  refine GW_loop (fun k fr H1 => ∃ (j : Nat), j ≤ n ∧ k = n - j ∧ fr.get 0 = some (.int .i64 n) ∧ fr.get 1 = some (v) ∧ fr.get 2 = some (.int .i64 f) ∧ fr.get 4 = some (.int .i64 dst) ∧ fr.get 11 = some (.slice (some ⟨H.len, 0, none⟩) s (s + 1)) ∧ fr.get 12 = some (.int .i64 r) ∧ fr.get 19 = some (.int .i64 s) ∧ fr.get 20 = some (.int .i64 r) ∧ fr.get 32 = some (.int .i64 n) ∧ fr.get 33 = some (.int .i64 j) ∧ RS H H1 H.len s n ids2 (updR rows r (fillFar j n))) ?_ n ?_
  case refine_2 =>
    refine ⟨0, by omega, by omega, ?_⟩
    simp only [↓Tr.get_set, Nat.reduceEqDiff, if_true, if_false, ↓reduceIte, Int.natCast_add, Int.cast_ofNat_Int, Int.natCast_zero, true_and, and_true, Option.some.injEq, Value.int.injEq, f0, f1, f2, f4, f11, f19, f20]
    rw [fillFar_zero]; exact hRS2
  clear hRS2 H2 hset hget hx
  rintro k fr H2 ⟨j, hj, rfl, f0, f1, f2, f4, f11, f12, f19, f20, f32, f33, hRS2⟩ J2 hJ2
  have hS2 := hRS2.same
  have hlim2 : H2.lim ≤ H2.len := hS2.wf.1
  have hout2 := hRS2.out
  have hrdo := fun o => mine_rd (o := o) hout2
  have hrow := hRS2.row r (by omega)
  rw [updR_same] at hrow
  obtain ⟨hr_1, hr_2, hr_3⟩ := hRS2.id r (by omega)
  have htab : (tab s ids2 n)[r]? = some (.slice (some ⟨ids2[r]!, 0, none⟩) n (n + 1)) := tab_get hr1 (by omega)
  have htab0 : r = 0 → (tab s ids2 n)[0]? = some (.slice (some ⟨ids2[r]!, 0, none⟩) n (n + 1)) := fun h => by subst h; exact htab
  have hfl := fillFar_len hj
  have hl2' := hl2.same hw hS2
  have hcut2 : gslice (.sl 6) H2 v (some (.int .i64 (f + 1))) none none = some v2 := by
    rw [hl.gslice_same hw hS2, gslice_hi hl (k := .i64), hcut]
  have hsl2 := hl2'.rd.isSl
  repeat' (first | refine GW_seq ?_ | refine GW_line ?_ | refine Gw_nil ?_ | refine GN_seq ?_ | refine GN_blk ?_ | refine GW_block ?_ | refine GW_skip ?_ | refine GW_exit ?_ | refine GX_seq ?_ | refine GX_blk ?_ | refine GX_up rfl ?_ | refine GX_inv ?_ | refine GW_ret ?_ | refine GN_inv ?_ | refine GN_nil ?_ | refine GW_any rfl ?_ | refine Gp_nil ?_ | ((first | refine Gw_s fun K' hK' => ?_ | refine Gp_s fun K' hK' => ?_ | refine Gw_0 fun K' hK' => ?_ | intro K' hK'); (simp (disch := (first | (simp only [ints_length, List.length_set, List.length_cons, List.length_nil, List.length_replicate, len_put, len_add, lim_put, lim_add, flatV_int, flatV_bool, flatV_str, flatV_ptr, flatV_sl, List.all_cons, List.all_nil, Bool.and_self, List.size_toArray, Nat.reduceAdd, Nat.zero_add]; done) | omega | (simp only [ints_length, List.length_set, List.length_cons, List.length_nil, List.length_replicate, len_put, len_add, lim_put, lim_add, flatV_int, flatV_bool, flatV_str, flatV_ptr, flatV_sl, List.all_cons, List.all_nil, Bool.and_self, List.size_toArray, Nat.reduceAdd, Nat.zero_add] <;> omega) | fail)) only [↓gd_move, ↓gd_pick, ↓gd_alloc, ↓gd_load, ↓gd_bin, ↓gd_un, ↓gd_fa, ↓gd_ia, ↓gd_len, ↓gd_lenOf, ↓gd_store, ↓gd_ix, ↓gd_fld, ↓gd_cap, ↓gd_ext', ↓gd_conv, ↓gd_mk, ↓gd_app, ↓gd_copy, ↓gd_next, ↓gd_fn, ↓gd_min, ↓gd_max, ↓gd_slice, ↓gd_build, ↓gd_buildSl, ↓gd_box, ↓gd_nilc', ↓gd_rng, ↓gd_appM, ↓gM_move, ↓gM_pick, ↓gM_alloc, ↓gM_load, ↓gM_bin, ↓gM_un, ↓gM_fa, ↓gM_ia, ↓gM_len, ↓gM_lenOf, ↓gM_ix, ↓gM_fld, ↓gM_cap, ↓gM_ext, ↓gM_conv, ↓gM_mk, ↓gM_fn, ↓gM_min, ↓gM_max, ↓gM_slice, ↓gM_build, ↓gM_buildSl, ↓gM_box, ↓gM_nilc, ↓gM_rng, ↓gM_appM, ↓GArg.ev, ↓evs, ↓evOpt, ↓Tr.get_set, Option.bind_some, Option.map_some, add_none, gb_lss, gb_gtr, gb_leq, gb_geq, gb_add, gb_sub, gb_mul, gb_eql', gb_neq', gu_not, gu_neg, gfold_min1, gfold_max1, wr_i64, wr_i32, wr_u8, wr_u16, wr_u32, glen_sl, glen_str, gadd_ptr, gia_sl, gmake_sq, zeros_ints, zeros_sl, gld_1, gld_n, gst_1, gst_n, gset_ok, gsetn_all, rd_put_same, rd_put_ne, rd_add_eq, rd_add_ne, rdn_put_ne, rdn_add_ne, rdn_put_all, rdn_add_all, mine_put_same, mine_put_ne, mine_add_eq, mine_add_ne, len_put, len_add, lim_put, lim_add, ints_at, ints_set, ints_length, Option.map_map, List.getElem?_toArray, List.getElem?_cons_zero, List.getElem?_cons_succ, List.length_cons, List.length_nil, List.length_set, List.size_toArray, Int.toNat_natCast, Nat.mul_one, Nat.add_zero, Nat.zero_add, ite_true, ite_false, if_true, if_false, Bool.false_eq_true, ↓reduceIte, decide_true, decide_false, Bool.not_true, Bool.not_false, blk_sl, ofs_sl, Nat.reduceEqDiff, Nat.reduceAdd, Nat.reduceMul, reduceCtorEq, Int.reduceToNat, ↓evParts, fillL_1, fillL_0, List.replicate_zero, ints_nil, g34, f0, f1, f2, f4, f11, f12, f19, f20, f32, f33, hrdo, hrow, htab, htab0, hsl2.len, hcut2]; refine G1_go (hK' _ _ ?_); clear hK' K')) | ((first | refine Gw_dt fun A B C D hA hB hC hD => ?_ | refine Gw_df fun A B C D hA hB hC hD => ?_ | refine GW_cd fun A B C D hA hB hC hD => ?_); (simp only [↓Tr.get_set, Nat.reduceEqDiff, if_true, if_false, ↓reduceIte, g34, f0, f1, f2, f4, f11, f12, f19, f20, f32, f33, hrdo, hrow, htab, htab0, hsl2.len, hcut2]; first | (refine Gd_true (hA ?_); clear hA hB hC hD A B C D) | (refine Gd_false (hB ?_); clear hA hB hC hD A B C D) | (refine Gd_some (fun hc => hC ?_) (fun hc => hD ?_) <;> clear hA hB hC hD A B C D <;> (try simp only [decide_eq_true_eq, decide_eq_false_iff_not, Bool.not_eq_true', Bool.not_eq_false', Int.not_lt, Int.not_le, Bool.not_true, Bool.not_false, Bool.true_eq_false, Bool.false_eq_true, Decidable.not_not] at hc)))) | (refine GR.mk ?_; simp only [gresults, ↓Tr.get_set, Option.bind_some, Nat.reduceEqDiff, if_true, if_false, ↓reduceIte, gld_1, gld_n, g34, f0, f1, f2, f4, f11, f12, f19, f20, f32, f33, hrdo, hrow, htab, htab0, hsl2.len, hcut2]; refine ⟨_, rfl, ?_⟩; simp only [gone]))
  case refine_1.refine_1 h0 =>
    refine hJ2 _ _ ⟨n - (j + 1), by omega, j + 1, by omega, rfl, ?_⟩
    simp only [↓Tr.get_set, Nat.reduceEqDiff, if_true, if_false, ↓reduceIte, Int.natCast_add, Int.cast_ofNat_Int, Int.natCast_zero, true_and, and_true, Option.some.injEq, Value.int.injEq, f0, f1, f2, f4, f11, f12, f19, f20, f32]
    have := hRS2.set_ (k := r) (by omega) (fillFar (j + 1) n)
    rw [← fillFar_next (by omega)] at this ⊢
    refine this.congr fun k hk => ?_
    unfold updR; split <;> rfl
  case refine_1.refine_2.refine_1 h0 h1 =>
    obtain rfl : n = j := by omega
    obtain rfl : r = 0 := by omega
    refine hJ _ _ ⟨s - (0 + 1), by omega, 0 + 1, ids2, by omega, rfl, by omega, ?_⟩
    simp only [↓Tr.get_set, Nat.reduceEqDiff, if_true, if_false, ↓reduceIte, Int.natCast_add, Int.cast_ofNat_Int, Int.natCast_zero, true_and, and_true, Option.some.injEq, Value.int.injEq, f0, f1, f2, f4, f11, f12, f19, f20, f32]
    have := hRS2.set_ (k := 0) (by omega) (rows 0)
    rw [hp0, ← fillFar_all] at this
    refine this.congr fun k hk => ?_
    obtain rfl : k = 0 := by omega
    rw [updR_same, hp0, fillFar_all]
  case refine_1.refine_2.refine_2 h0 h1 =>
  obtain rfl : n = j := by omega
  obtain ⟨q, rfl⟩ : ∃ q, r = q + 1 := ⟨r - 1, by omega⟩
  refine GW_loop (fun k fr H1 => ∃ (i : Nat), i ≤ m2.length ∧ k = m2.length - i ∧ fr.get 0 = some (.int .i64 n) ∧ fr.get 1 = some (v) ∧ fr.get 2 = some (.int .i64 f) ∧ fr.get 4 = some (.int .i64 dst) ∧ fr.get 11 = some (.slice (some ⟨H.len, 0, none⟩) s (s + 1)) ∧ fr.get 12 = some (.int .i64 (q + 1 : Nat)) ∧ fr.get 19 = some (.int .i64 s) ∧ fr.get 20 = some (.int .i64 (q + 1 : Nat)) ∧ fr.get 53 = some (v2) ∧ fr.get 54 = some (.int .i64 m2.length) ∧ fr.get 55 = some (.int .i64 i) ∧
    RS H H1 H.len s n ids2 (updR rows (q + 1) (((m2.take i).map edge).foldl (pre1 (rows q)) (List.replicate n far)))) ?_ m2.length ?_
  case refine_2 =>
    refine ⟨0, by omega, by omega, ?_⟩
    simp only [↓Tr.get_set, Nat.reduceEqDiff, if_true, if_false, ↓reduceIte, Int.natCast_add, Int.cast_ofNat_Int, Int.natCast_zero, true_and, and_true, Option.some.injEq, Value.int.injEq, f0, f1, f2, f4, f11, f12, f19, f20]
    rw [fillFar_all] at hRS2; exact hRS2
  clear hRS2 hS2 hlim2 hout2 hrdo hrow hr_1 hr_2 hr_3 htab htab0 hfl hl2' hcut2
  rintro k fr H3 ⟨i, hi, rfl, f0, f1, f2, f4, f11, f12, f19, f20, f53, f54, f55, hRS3⟩ J3 hJ3
  have hS3 := hRS3.same
  have hwl := hS3.wf.1
  have hio3 := hRS3.io2
  have hrdo := fun o => mine_rd (o := o) hRS3.out
  have hrq := hRS3.row q (by omega)
  rw [updR_ne _ _ (by omega)] at hrq
  have hrr := hRS3.row (q + 1) (by omega)
  rw [updR_same] at hrr
  have hrdq := fun o => mine_rd (o := o) hrq
  have hrdr := fun o => mine_rd (o := o) hrr
  obtain ⟨hr_1, hr_2, hr_3⟩ := hRS3.id (q + 1) (by omega)
  obtain ⟨hq_1, hq_2, hq_3⟩ := hRS3.id q (by omega)
  have htq : (tab s ids2 n)[q]? = some (.slice (some ⟨ids2[q]!, 0, none⟩) n (n + 1)) := tab_get (by omega) (by omega)
  have htr : (tab s ids2 n)[q + 1]? = some (.slice (some ⟨ids2[q + 1]!, 0, none⟩) n (n + 1)) := tab_get (by omega) (by omega)
  have htn : ((q + 1 : Nat) : Int).toNat = q + 1 := by omega
  have htn1 : (((q + 1 : Nat) : Int) - 1).toNat = q := by omega
  have hbd : ∀ k : Nat, k < m2.length → H3.rdn (blk v2) (ofs v2 + k * 6) 6 = some (bdv m2[k]!) := fun k hk => by
    rw [hS3.rdn (hl2.rd.lt (by omega))]; exact hl2.rd.bd hk
  have hbl := hl2.rd.lt
  have hsl2 := hl2.rd.isSl
  have hvb : i < m2.length → 0 ≤ m2[i]!.I ∧ m2[i]!.I < n ∧ 0 ≤ m2[i]!.J ∧ m2[i]!.J < n ∧ -1099511627776 ≤ m2[i]!.C ∧ m2[i]!.C ≤ 1099511627776 := fun h => by
    rw [getElem!_pos m2 i h]; exact hV2 _ (List.getElem_mem h)
  have hprev := sml_at (hsm q) (by omega)
  have hp1 := fun h : i < m2.length => hprev m2[i]!.J.toNat
  have hpl := hrl q
  generalize hd0 : ((m2.take i).map edge).foldl (pre1 (rows q)) (List.replicate n far) = d0 at *
  have hdl : d0.length = n := by rw [← hd0, foldl_pre_len]; simp
  have hds : Sml (q + 1) d0 := by
    rw [← hd0]
    exact foldl_pre_sml (hsm q) _ _ (fun e he => hV2.csm e (by obtain ⟨b, hb, rfl⟩ := List.mem_map.1 he; exact List.mem_map.2 ⟨b, List.mem_of_mem_take hb, rfl⟩)) (Sml.far_ _ n)
  have hd1 := fun h : i < m2.length => sml_at hds (by omega) m2[i]!.I.toNat
  generalize hpr : rows q = prev at *
  repeat' (first | refine GW_seq ?_ | refine GW_line ?_ | refine Gw_nil ?_ | refine GN_seq ?_ | refine GN_blk ?_ | refine GW_block ?_ | refine GW_skip ?_ | refine GW_exit ?_ | refine GX_seq ?_ | refine GX_blk ?_ | refine GX_up rfl ?_ | refine GX_inv ?_ | refine GW_ret ?_ | refine GN_inv ?_ | refine GN_nil ?_ | refine GW_any rfl ?_ | refine Gp_nil ?_ | ((first | refine Gw_s fun K' hK' => ?_ | refine Gp_s fun K' hK' => ?_ | refine Gw_0 fun K' hK' => ?_ | intro K' hK'); (simp (disch := (first | (simp only [ints_length, List.length_set, List.length_cons, List.length_nil, List.length_replicate, len_put, len_add, lim_put, lim_add, flatV_int, flatV_bool, flatV_str, flatV_ptr, flatV_sl, List.all_cons, List.all_nil, Bool.and_self, List.size_toArray, Nat.reduceAdd, Nat.zero_add]; done) | omega | (simp only [ints_length, List.length_set, List.length_cons, List.length_nil, List.length_replicate, len_put, len_add, lim_put, lim_add, flatV_int, flatV_bool, flatV_str, flatV_ptr, flatV_sl, List.all_cons, List.all_nil, Bool.and_self, List.size_toArray, Nat.reduceAdd, Nat.zero_add] <;> omega) | fail)) only [↓gd_move, ↓gd_pick, ↓gd_alloc, ↓gd_load, ↓gd_bin, ↓gd_un, ↓gd_fa, ↓gd_ia, ↓gd_len, ↓gd_lenOf, ↓gd_store, ↓gd_ix, ↓gd_fld, ↓gd_cap, ↓gd_ext', ↓gd_conv, ↓gd_mk, ↓gd_app, ↓gd_copy, ↓gd_next, ↓gd_fn, ↓gd_min, ↓gd_max, ↓gd_slice, ↓gd_build, ↓gd_buildSl, ↓gd_box, ↓gd_nilc', ↓gd_rng, ↓gd_appM, ↓gM_move, ↓gM_pick, ↓gM_alloc, ↓gM_load, ↓gM_bin, ↓gM_un, ↓gM_fa, ↓gM_ia, ↓gM_len, ↓gM_lenOf, ↓gM_ix, ↓gM_fld, ↓gM_cap, ↓gM_ext, ↓gM_conv, ↓gM_mk, ↓gM_fn, ↓gM_min, ↓gM_max, ↓gM_slice, ↓gM_build, ↓gM_buildSl, ↓gM_box, ↓gM_nilc, ↓gM_rng, ↓gM_appM, ↓GArg.ev, ↓evs, ↓evOpt, ↓Tr.get_set, Option.bind_some, Option.map_some, add_none, gb_lss, gb_gtr, gb_leq, gb_geq, gb_add, gb_sub, gb_mul, gb_eql', gb_neq', gu_not, gu_neg, gfold_min1, gfold_max1, wr_i64, wr_i32, wr_u8, wr_u16, wr_u32, glen_sl, glen_str, gadd_ptr, gia_sl, gmake_sq, zeros_ints, zeros_sl, gld_1, gld_n, gst_1, gst_n, gset_ok, gsetn_all, rd_put_same, rd_put_ne, rd_add_eq, rd_add_ne, rdn_put_ne, rdn_add_ne, rdn_put_all, rdn_add_all, mine_put_same, mine_put_ne, mine_add_eq, mine_add_ne, len_put, len_add, lim_put, lim_add, ints_at, ints_set, ints_length, Option.map_map, List.getElem?_toArray, List.getElem?_cons_zero, List.getElem?_cons_succ, List.length_cons, List.length_nil, List.length_set, List.size_toArray, Int.toNat_natCast, Nat.mul_one, Nat.add_zero, Nat.zero_add, ite_true, ite_false, if_true, if_false, Bool.false_eq_true, ↓reduceIte, decide_true, decide_false, Bool.not_true, Bool.not_false, blk_sl, ofs_sl, Nat.reduceEqDiff, Nat.reduceAdd, Nat.reduceMul, reduceCtorEq, Int.reduceToNat, ↓evParts, fillL_1, fillL_0, List.replicate_zero, ints_nil, g34, f0, f1, f2, f4, f11, f12, f19, f20, f53, f54, f55, hrdo, hrdq, hrdr, hrr, htq, htr, htn, htn1, hsl2.ia, hbd, bdv]; refine G1_go (hK' _ _ ?_); clear hK' K')) | ((first | refine Gw_dt fun A B C D hA hB hC hD => ?_ | refine Gw_df fun A B C D hA hB hC hD => ?_ | refine GW_cd fun A B C D hA hB hC hD => ?_); (simp only [↓Tr.get_set, Nat.reduceEqDiff, if_true, if_false, ↓reduceIte, g34, f0, f1, f2, f4, f11, f12, f19, f20, f53, f54, f55, hrdo, hrdq, hrdr, hrr, htq, htr, htn, htn1, hsl2.ia, hbd, bdv]; first | (refine Gd_true (hA ?_); clear hA hB hC hD A B C D) | (refine Gd_false (hB ?_); clear hA hB hC hD A B C D) | (refine Gd_some (fun hc => hC ?_) (fun hc => hD ?_) <;> clear hA hB hC hD A B C D <;> (try simp only [decide_eq_true_eq, decide_eq_false_iff_not, Bool.not_eq_true', Bool.not_eq_false', Int.not_lt, Int.not_le, Bool.not_true, Bool.not_false, Bool.true_eq_false, Bool.false_eq_true, Decidable.not_not] at hc)))) | (refine GR.mk ?_; simp only [gresults, ↓Tr.get_set, Option.bind_some, Nat.reduceEqDiff, if_true, if_false, ↓reduceIte, gld_1, gld_n, g34, f0, f1, f2, f4, f11, f12, f19, f20, f53, f54, f55, hrdo, hrdq, hrdr, hrr, htq, htr, htn, htn1, hsl2.ia, hbd, bdv]; refine ⟨_, rfl, ?_⟩; simp only [gone]))
  case refine_1.refine_1.refine_1 h2 h3 =>
    refine hJ3 _ _ ⟨m2.length - (i + 1), by omega, i + 1, by omega, rfl, ?_⟩
    simp only [↓Tr.get_set, Nat.reduceEqDiff, if_true, if_false, ↓reduceIte, Int.natCast_add, Int.cast_ofNat_Int, Int.natCast_zero, true_and, and_true, Option.some.injEq, Value.int.injEq, f0, f1, f2, f4, f11, f12, f19, f20, f53, f54]
    have := (hRS3.local_ (.cells [.int .i64 0, .int .i64 0, .int .i64 0, .int .u8 0, .int .i64 0, .int .i64 0] 0 true) (.cells (bcells m2[i]!) 0 true)).set_ (k := q + 1) (by omega) (pre1 prev d0 (edge m2[i]!))
    rw [take_next (by omega), List.foldl_append, hd0]
    rw [← pre1_min hc] at this
    refine this.congr fun k hk => ?_
    rw [List.foldl_cons, List.foldl_nil, ← pre1_min hc]
    unfold updR; split <;> rfl
  case refine_1.refine_1.refine_2 h2 h3 =>
    refine hJ3 _ _ ⟨m2.length - (i + 1), by omega, i + 1, by omega, rfl, ?_⟩
    simp only [↓Tr.get_set, Nat.reduceEqDiff, if_true, if_false, ↓reduceIte, Int.natCast_add, Int.cast_ofNat_Int, Int.natCast_zero, true_and, and_true, Option.some.injEq, Value.int.injEq, f0, f1, f2, f4, f11, f12, f19, f20, f53, f54]
    rw [take_next (by omega), List.foldl_append, hd0, List.foldl_cons, List.foldl_nil, pre1_no hc]
    exact hRS3.local_ _ _
  case refine_1.refine_2 h2 =>
    obtain rfl : m2.length = i := by omega
    rw [List.take_length] at hd0
    refine hJ _ _ ⟨s - (q + 1 + 1), by omega, q + 1 + 1, ids2, by omega, rfl, by omega, ?_⟩
    simp only [↓Tr.get_set, Nat.reduceEqDiff, if_true, if_false, ↓reduceIte, Int.natCast_add, Int.cast_ofNat_Int, Int.natCast_zero, true_and, and_true, Option.some.injEq, Value.int.injEq, f0, f1, f2, f4, f11, f12, f19, f20, f53, f54]
    refine hRS3.congr fun k hk => ?_
    unfold updR
    split
    · rename_i hk; rw [hk, hpS, hpr, hd0]
    · rfl
end Go.Gh
