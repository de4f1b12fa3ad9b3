/-
  rest of diffcon's reference, walked.
-/
import Derived.Test.YtfcbdkbdalbjmaaDgRests
namespace Go.Gh
set_option linter.unusedSimpArgs false
set_option linter.unusedVariables false
open Go.RowKit
set_option maxRecDepth 4000

/-- a table that grows, of rows of one's own, younger than H, elder than b -/
structure RA (H H1 : GHeap) (io gc m n : Nat) (ids : List Nat) (rows : Nat → List Int) (b : Nat) : Prop where
  same : Same H H1
  io1 : H.len ≤ io
  io2 : io < b
  b2 : b ≤ H1.len
  len : ids.length = m
  gc_ : gc = 0 ∨ gc = m + 1
  out : H1.mine io = some (tab m ids n, 1)
  id : ∀ k, k < m → H.len ≤ ids[k]! ∧ ids[k]! < b ∧ ids[k]! ≠ io
  row : ∀ k, k < m → H1.mine ids[k]! = some (ints .i64 (rows k), 1)
section
variable {H H1 H2 : GHeap} {io gc m n b : Nat} {ids : List Nat} {rows : Nat → List Int}
theorem RA.young (h : RA H H1 io gc m n ids rows b) (hS : Same H H2) (hb : b ≤ H2.len) (ho : ∀ j, j < b → H2.mine j = H1.mine j) : RA H H2 io gc m n ids rows b :=
  ⟨hS, h.io1, h.io2, hb, h.len, h.gc_, by rw [ho _ h.io2]; exact h.out, h.id, fun k hk => by rw [ho _ (h.id k hk).2.1]; exact h.row k hk⟩
theorem RA.more (h : RA H H1 io gc m n ids rows b) {b' : Nat} (hb : b ≤ b') (hb' : b' ≤ H1.len) : RA H H1 io gc m n ids rows b' :=
  ⟨h.same, h.io1, Nat.lt_of_lt_of_le h.io2 hb, hb', h.len, h.gc_, h.out, fun k hk => ⟨(h.id k hk).1, Nat.lt_of_lt_of_le (h.id k hk).2.1 hb, (h.id k hk).2.2⟩, h.row⟩
theorem RA.out_ (h : RA H H1 io gc m n ids rows b) : RowsOut H1 (.slice (some ⟨io, 0, none⟩) m gc) m n rows :=
  ⟨io, gc, ids, rfl, Nat.lt_of_lt_of_le h.io2 h.b2, mine_cs h.out, h.len.symm, fun k hk => ⟨Nat.lt_of_lt_of_le (h.id k hk).2.1 h.b2, mine_cs (h.row k hk)⟩⟩
theorem tab_snoc' {ids : List Nat} {n x : Nat} : tab ids.length ids n ++ [slv n x] = tab (ids.length + 1) (ids ++ [x]) n := by
  refine List.ext_getElem? fun k => ?_
  by_cases h : k < ids.length
  · rw [List.getElem?_append_left (by rw [tab_len]; exact h), tab_get h h, tab_get (by omega) (by simp; omega), snoc_get h]
  · rw [List.getElem?_append_right (by rw [tab_len]; omega), tab_len]
    by_cases h2 : k = ids.length
    · subst h2; rw [tab_get (by omega) (by simp), snoc_last, Nat.sub_self]; rfl
    · rw [List.getElem?_eq_none (by simp; omega), List.getElem?_eq_none (by rw [tab_len]; omega)]
theorem RA.app (h : RA H H1 io gc m n ids rows b) (hm : m ≤ 100) {ir ix : Nat} {d : List Int} (hir : b ≤ ir) (hir2 : ir < ix) (hrow : H1.mine ir = some (ints .i64 d, 1)) (hx : H1.mine ix = some ([slv n ir], 1)) :
    ∃ v' H', gapp 1 24 1 H1 (.slice (some ⟨io, 0, none⟩) m gc) (.slice (some ⟨ix, 0, none⟩) 1 2) = some (v', H') ∧ ∃ io' gc', v' = .slice (some ⟨io', 0, none⟩) (m + 1) gc' ∧ RA H H' io' gc' (m + 1) n (ids ++ [ir]) (updR rows m d) H'.len := by
  have hw := h.same.wf
  have hil := mine_lt hw hrow
  have hio3 : io < H1.len := Nat.lt_of_lt_of_le h.io2 h.b2
  obtain ⟨v', H', k1, k2, k3, k4, k5, k6, k7⟩ := gapp_own (bytes := 24) (m := 1) (x := .slice (some ⟨ix, 0, none⟩) 1 2) (news := [slv n ir]) hw ⟨by rw [tab_len]; omega, .inr ⟨io, gc, rfl, h.gc_, h.out⟩⟩ (by omega) (by omega) rfl (gcells_1 hx) rfl (by omega) (by omega) (by omega)
  have hmine : ∀ j, j < H1.len → j ≠ io → H'.mine j = H1.mine j := fun j hj hne => by
    simp only [GHeap.mine, k4, k7 j hj (.inl hne)]
  refine ⟨v', H', k1, ?_⟩
  rcases k2.at_ with ⟨_, h0⟩ | ⟨io', gc', e, hg, hmi⟩
  · omega
  subst e
  have hio' : io' = H1.len := k6
  subst hio'
  have hl := h.len
  refine ⟨_, gc', rfl, h.same.of_obj k3 k4 (by omega) (fun j hj => k7 j (Nat.lt_of_lt_of_le hj h.same.len) (.inl (by have := h.io1; show j ≠ io; omega))), h.same.len, by omega, Nat.le_refl _, by simp [hl], hg, ?_, fun k hk => ?_, fun k hk => ?_⟩
  · rw [hmi]
    have := tab_snoc' (ids := ids) (n := n) (x := ir)
    rw [hl] at this
    rw [this]
  · rcases Nat.lt_succ_iff_lt_or_eq.1 hk with hk | rfl
    · rw [snoc_get (by omega)]
      have := h.id k hk
      have := h.b2
      exact ⟨by omega, by omega, by omega⟩
    · rw [← hl, snoc_last]
      have h1 := h.io1
      have h2 := h.io2
      exact ⟨by omega, by omega, by omega⟩
  · rcases Nat.lt_succ_iff_lt_or_eq.1 hk with hk | rfl
    · have := h.id k hk
      have := h.b2
      rw [snoc_get (by omega), updR_ne _ _ (by omega), hmine _ (by omega) (by omega)]
      exact h.row k hk
    · have h2 := h.io2
      have hlast := snoc_last (ids := ids) (x := ir)
      rw [hl] at hlast
      rw [hlast, updR_same, hmine _ hil (by omega)]
      exact hrow
end
theorem pre1_yes {prev d : List Int} {b : Bd} (h : prev[b.J.toNat]! < 1152921504606846976) (h2 : b.C + prev[b.J.toNat]! < d[b.I.toNat]!) : pre1 prev d (edge b) = d.set b.I.toNat (b.C + prev[b.J.toNat]!) := by
  unfold pre1
  simp only [gx_eq, edge]
  rw [if_pos ⟨by unfold far; omega, h2⟩]
theorem pre1_no2 {prev d : List Int} {b : Bd} (h : prev[b.J.toNat]! = 1152921504606846976 ∨ d[b.I.toNat]! ≤ b.C + prev[b.J.toNat]!) : pre1 prev d (edge b) = d := by
  unfold pre1
  simp only [gx_eq, edge]
  rw [if_neg]
  rintro ⟨h1, h2⟩
  rcases h with h | h
  · exact h1 h
  · omega
theorem drop_take_next {l : List Bd} {a i : Nat} (h : i < l.length) (ha : a ≤ i) : ((l.drop a).take (i + 1 - a)).map edge = ((l.drop a).take (i - a)).map edge ++ [edge l[i]!] := by
  have := take_next (l := l.drop a) (i := i - a) (by rw [List.length_drop]; omega)
  rw [show i + 1 - a = i - a + 1 from by omega, this]
  congr 3
  rw [getElem!_pos _ _ (by rw [List.length_drop]; omega), getElem!_pos l i h]
  simp only [List.getElem_drop]
  congr 1; omega
set_option maxHeartbeats 2000000 in
theorem rest_ok {H : GHeap} (hw : H.wf) {v : Value} {l : List Bd} (hl : GRd H 6 v l.length (Bds l)) {n : Nat} (hv : Valid n l) (hn1 : 1 ≤ n) (hn : n ≤ 16) (hll : l.length ≤ 16) {f s dst : Nat} (hf : f < l.length) (hs : s ≤ 15) (hd : dst < n) :
    ∃ r H', gev G 35 [.int .i64 n, v, .int .i64 f, .int .i64 dst, .int .i64 s] H = some (r, H') ∧ (RowsOut H' r (s + 1) n (preRows n ((l.drop (f + 1)).map edge) dst) ∧ Same H H') := by
  refine gev_GW (f := 35) rfl fun Post hPost => ?_
  have hlim := hw.1
  have hV2 : Valid n (l.drop (f + 1)) := hv.sub fun b hb => List.mem_of_mem_drop hb
  have hsl := hl.isSl
  have hsm := preRows_sml n ((l.drop (f + 1)).map edge) dst hV2.csm
  have hrl := preRows_len n ((l.drop (f + 1)).map edge) dst
  have hp0 : preRows n ((l.drop (f + 1)).map edge) dst 0 = (List.replicate n far).set dst 0 := rfl
  have hpS : ∀ r, preRows n ((l.drop (f + 1)).map edge) dst (r + 1) = ((l.drop (f + 1)).map edge).foldl (pre1 (preRows n ((l.drop (f + 1)).map edge) dst r)) (List.replicate n far) := fun r => rfl
  generalize preRows n ((l.drop (f + 1)).map edge) dst = rows at *
  simp only [frameOf, Nat.reduceAdd]
  repeat' (first | refine GW_seq ?_ | refine GW_line ?_ | refine Gw_nil ?_ | refine GN_seq ?_ | refine GN_blk ?_ | refine GW_block ?_ | refine GW_skip ?_ | refine GW_exit ?_ | refine GX_seq ?_ | refine GX_blk ?_ | refine GX_up rfl ?_ | refine GX_inv ?_ | refine GW_ret ?_ | refine GN_inv ?_ | refine GN_nil ?_ | refine GW_any rfl ?_ | refine Gp_nil ?_ | ((first | refine Gw_s fun K' hK' => ?_ | refine Gp_s fun K' hK' => ?_ | refine Gw_0 fun K' hK' => ?_ | intro K' hK'); (simp (disch := (first | (simp only [ints_length, List.length_set, List.length_cons, List.length_nil, List.length_replicate, len_put, len_add, lim_put, lim_add, flatV_int, flatV_bool, flatV_str, flatV_ptr, flatV_sl, List.all_cons, List.all_nil, Bool.and_self, List.size_toArray, Nat.reduceAdd, Nat.zero_add]; done) | omega | (simp only [ints_length, List.length_set, List.length_cons, List.length_nil, List.length_replicate, len_put, len_add, lim_put, lim_add, flatV_int, flatV_bool, flatV_str, flatV_ptr, flatV_sl, List.all_cons, List.all_nil, Bool.and_self, List.size_toArray, Nat.reduceAdd, Nat.zero_add] <;> omega) | fail)) only [↓gd_move, ↓gd_pick, ↓gd_alloc, ↓gd_load, ↓gd_bin, ↓gd_un, ↓gd_fa, ↓gd_ia, ↓gd_len, ↓gd_lenOf, ↓gd_store, ↓gd_ix, ↓gd_fld, ↓gd_cap, ↓gd_ext', ↓gd_conv, ↓gd_mk, ↓gd_app, ↓gd_copy, ↓gd_next, ↓gd_fn, ↓gd_min, ↓gd_max, ↓gd_slice, ↓gd_build, ↓gd_buildSl, ↓gd_box, ↓gd_nilc', ↓gd_rng, ↓gd_appM, ↓gM_move, ↓gM_pick, ↓gM_alloc, ↓gM_load, ↓gM_bin, ↓gM_un, ↓gM_fa, ↓gM_ia, ↓gM_len, ↓gM_lenOf, ↓gM_ix, ↓gM_fld, ↓gM_cap, ↓gM_ext, ↓gM_conv, ↓gM_mk, ↓gM_fn, ↓gM_min, ↓gM_max, ↓gM_slice, ↓gM_build, ↓gM_buildSl, ↓gM_box, ↓gM_nilc, ↓gM_rng, ↓gM_appM, ↓GArg.ev, ↓evs, ↓evOpt, ↓Tr.get_set, Option.bind_some, Option.map_some, add_none, gb_lss, gb_gtr, gb_leq, gb_geq, gb_add, gb_sub, gb_mul, gb_eql', gb_neq', gu_not, gu_neg, gfold_min1, gfold_max1, wr_i64, wr_i32, wr_u8, wr_u16, wr_u32, glen_sl, glen_str, gadd_ptr, gia_sl, gmake_sq, zeros_ints, zeros_sl, gld_1, gld_n, gst_1, gst_n, gset_ok, gsetn_all, rd_put_same, rd_put_ne, rd_add_eq, rd_add_ne, rdn_put_ne, rdn_add_ne, rdn_put_all, rdn_add_all, mine_put_same, mine_put_ne, mine_add_eq, mine_add_ne, len_put, len_add, lim_put, lim_add, ints_at, ints_set, ints_length, Option.map_map, List.getElem?_toArray, List.getElem?_cons_zero, List.getElem?_cons_succ, List.length_cons, List.length_nil, List.length_set, List.size_toArray, Int.toNat_natCast, Nat.mul_one, Nat.add_zero, Nat.zero_add, ite_true, ite_false, if_true, if_false, Bool.false_eq_true, ↓reduceIte, decide_true, decide_false, Bool.not_true, Bool.not_false, blk_sl, ofs_sl, Nat.reduceEqDiff, Nat.reduceAdd, Nat.reduceMul, reduceCtorEq, Int.reduceToNat, ↓evParts, fillL_1, fillL_0, List.replicate_zero, ints_nil, g35]; refine G1_go (hK' _ _ ?_); clear hK' K')) | ((first | refine Gw_dt fun A B C D hA hB hC hD => ?_ | refine Gw_df fun A B C D hA hB hC hD => ?_ | refine GW_cd fun A B C D hA hB hC hD => ?_); (simp only [↓Tr.get_set, Nat.reduceEqDiff, if_true, if_false, ↓reduceIte, g35]; first | (refine Gd_true (hA ?_); clear hA hB hC hD A B C D) | (refine Gd_false (hB ?_); clear hA hB hC hD A B C D) | (refine Gd_some (fun hc => hC ?_) (fun hc => hD ?_) <;> clear hA hB hC hD A B C D <;> (try simp only [decide_eq_true_eq, decide_eq_false_iff_not, Bool.not_eq_true', Bool.not_eq_false', Int.not_lt, Int.not_le, Bool.not_true, Bool.not_false, Bool.true_eq_false, Bool.false_eq_true, Decidable.not_not] at hc)))) | (refine GR.mk ?_; simp only [gresults, ↓Tr.get_set, Option.bind_some, Nat.reduceEqDiff, if_true, if_false, ↓reduceIte, gld_1, gld_n, g35]; refine ⟨_, rfl, ?_⟩; simp only [gone]))
  refine GW_loop (fun k fr H1 => ∃ (m io gc : Nat) (ids : List Nat), m ≤ s + 1 ∧ k = s + 1 - m ∧ fr.get 0 = some (.int .i64 n) ∧ fr.get 1 = some (v) ∧ fr.get 2 = some (.int .i64 f) ∧ fr.get 3 = some (.int .i64 dst) ∧ fr.get 4 = some (.int .i64 s) ∧ fr.get 11 = some (.slice (some ⟨io, 0, none⟩) m gc) ∧ fr.get 12 = some (.int .i64 m) ∧ RA H H1 io gc m n ids rows H1.len) ?_ (s + 1) ?_
  case refine_2 =>
    refine ⟨0, H.len, 1, [], by omega, by omega, ?_⟩
    simp only [↓Tr.get_set, Nat.reduceEqDiff, if_true, if_false, ↓reduceIte, Int.natCast_add, Int.cast_ofNat_Int, Int.natCast_zero, true_and, and_true, Option.some.injEq, Value.int.injEq]
    exact ⟨(Same.refl hw).add _, Nat.le_refl _, Nat.lt_succ_self _, Nat.le_refl _, rfl, .inr rfl, mine_add_eq rfl hlim, fun k hk => by omega, fun k hk => by omega⟩
  rintro k fr H1 ⟨m, io, gc, ids, hm, rfl, f0, f1, f2, f3, f4, f11, f12, hRA⟩ J hJ
  have hS1 := hRA.same
  have hlim1 : H1.lim ≤ H1.len := hS1.wf.1
  repeat' (first | refine GW_seq ?_ | refine GW_line ?_ | refine Gw_nil ?_ | refine GN_seq ?_ | refine GN_blk ?_ | refine GW_block ?_ | refine GW_skip ?_ | refine GW_exit ?_ | refine GX_seq ?_ | refine GX_blk ?_ | refine GX_up rfl ?_ | refine GX_inv ?_ | refine GW_ret ?_ | refine GN_inv ?_ | refine GN_nil ?_ | refine GW_any rfl ?_ | refine Gp_nil ?_ | ((first | refine Gw_s fun K' hK' => ?_ | refine Gp_s fun K' hK' => ?_ | refine Gw_0 fun K' hK' => ?_ | intro K' hK'); (simp (disch := (first | (simp only [ints_length, List.length_set, List.length_cons, List.length_nil, List.length_replicate, len_put, len_add, lim_put, lim_add, flatV_int, flatV_bool, flatV_str, flatV_ptr, flatV_sl, List.all_cons, List.all_nil, Bool.and_self, List.size_toArray, Nat.reduceAdd, Nat.zero_add]; done) | omega | (simp only [ints_length, List.length_set, List.length_cons, List.length_nil, List.length_replicate, len_put, len_add, lim_put, lim_add, flatV_int, flatV_bool, flatV_str, flatV_ptr, flatV_sl, List.all_cons, List.all_nil, Bool.and_self, List.size_toArray, Nat.reduceAdd, Nat.zero_add] <;> omega) | fail)) only [↓gd_move, ↓gd_pick, ↓gd_alloc, ↓gd_load, ↓gd_bin, ↓gd_un, ↓gd_fa, ↓gd_ia, ↓gd_len, ↓gd_lenOf, ↓gd_store, ↓gd_ix, ↓gd_fld, ↓gd_cap, ↓gd_ext', ↓gd_conv, ↓gd_mk, ↓gd_app, ↓gd_copy, ↓gd_next, ↓gd_fn, ↓gd_min, ↓gd_max, ↓gd_slice, ↓gd_build, ↓gd_buildSl, ↓gd_box, ↓gd_nilc', ↓gd_rng, ↓gd_appM, ↓gM_move, ↓gM_pick, ↓gM_alloc, ↓gM_load, ↓gM_bin, ↓gM_un, ↓gM_fa, ↓gM_ia, ↓gM_len, ↓gM_lenOf, ↓gM_ix, ↓gM_fld, ↓gM_cap, ↓gM_ext, ↓gM_conv, ↓gM_mk, ↓gM_fn, ↓gM_min, ↓gM_max, ↓gM_slice, ↓gM_build, ↓gM_buildSl, ↓gM_box, ↓gM_nilc, ↓gM_rng, ↓gM_appM, ↓GArg.ev, ↓evs, ↓evOpt, ↓Tr.get_set, Option.bind_some, Option.map_some, add_none, gb_lss, gb_gtr, gb_leq, gb_geq, gb_add, gb_sub, gb_mul, gb_eql', gb_neq', gu_not, gu_neg, gfold_min1, gfold_max1, wr_i64, wr_i32, wr_u8, wr_u16, wr_u32, glen_sl, glen_str, gadd_ptr, gia_sl, gmake_sq, zeros_ints, zeros_sl, gld_1, gld_n, gst_1, gst_n, gset_ok, gsetn_all, rd_put_same, rd_put_ne, rd_add_eq, rd_add_ne, rdn_put_ne, rdn_add_ne, rdn_put_all, rdn_add_all, mine_put_same, mine_put_ne, mine_add_eq, mine_add_ne, len_put, len_add, lim_put, lim_add, ints_at, ints_set, ints_length, Option.map_map, List.getElem?_toArray, List.getElem?_cons_zero, List.getElem?_cons_succ, List.length_cons, List.length_nil, List.length_set, List.size_toArray, Int.toNat_natCast, Nat.mul_one, Nat.add_zero, Nat.zero_add, ite_true, ite_false, if_true, if_false, Bool.false_eq_true, ↓reduceIte, decide_true, decide_false, Bool.not_true, Bool.not_false, blk_sl, ofs_sl, Nat.reduceEqDiff, Nat.reduceAdd, Nat.reduceMul, reduceCtorEq, Int.reduceToNat, ↓evParts, fillL_1, fillL_0, List.replicate_zero, ints_nil, g35, f0, f1, f2, f3, f4, f11, f12]; refine G1_go (hK' _ _ ?_); clear hK' K')) | ((first | refine Gw_dt fun A B C D hA hB hC hD => ?_ | refine Gw_df fun A B C D hA hB hC hD => ?_ | refine GW_cd fun A B C D hA hB hC hD => ?_); (simp only [↓Tr.get_set, Nat.reduceEqDiff, if_true, if_false, ↓reduceIte, g35, f0, f1, f2, f3, f4, f11, f12]; first | (refine Gd_true (hA ?_); clear hA hB hC hD A B C D) | (refine Gd_false (hB ?_); clear hA hB hC hD A B C D) | (refine Gd_some (fun hc => hC ?_) (fun hc => hD ?_) <;> clear hA hB hC hD A B C D <;> (try simp only [decide_eq_true_eq, decide_eq_false_iff_not, Bool.not_eq_true', Bool.not_eq_false', Int.not_lt, Int.not_le, Bool.not_true, Bool.not_false, Bool.true_eq_false, Bool.false_eq_true, Decidable.not_not] at hc)))) | (refine GR.mk ?_; simp only [gresults, ↓Tr.get_set, Option.bind_some, Nat.reduceEqDiff, if_true, if_false, ↓reduceIte, gld_1, gld_n, g35, f0, f1, f2, f3, f4, f11, f12]; refine ⟨_, rfl, ?_⟩; simp only [gone]))
  case refine_1.refine_2 =>
    obtain rfl : m = s + 1 := by omega
    exact hPost _ _ ⟨hRA.out_, hS1⟩
  case refine_1.refine_1 =>
  have hRA2 : RA H (H1.add (some (.cells (ints .i64 (List.replicate n 0)) 1 true))) io gc m n ids rows H1.len := hRA.young (hS1.add _) (Nat.le_succ _) fun j hj => mine_add_ne (by omega)
  have hcur2 : (H1.add (some (.cells (ints .i64 (List.replicate n 0)) 1 true))).mine H1.len = some (ints .i64 (List.replicate n 0), 1) := mine_add_eq rfl hlim1
  generalize H1.add (some (.cells (ints .i64 (List.replicate n 0)) 1 true)) = H2 at hRA2 hcur2 ⊢
  generalize H1.len = ir at hRA2 hcur2 ⊢
  refine GW_loop (fun k fr H1 => ∃ (j : Nat), j ≤ n ∧ k = n - j ∧ fr.get 0 = some (.int .i64 n) ∧ fr.get 1 = some (v) ∧ fr.get 2 = some (.int .i64 f) ∧ fr.get 3 = some (.int .i64 dst) ∧ fr.get 4 = some (.int .i64 s) ∧ fr.get 11 = some (.slice (some ⟨io, 0, none⟩) m gc) ∧ fr.get 12 = some (.int .i64 m) ∧ fr.get 13 = some (.slice (some ⟨ir, 0, none⟩) n (n + 1)) ∧ fr.get 26 = some (.int .i64 n) ∧ fr.get 27 = some (.int .i64 j) ∧ RA H H1 io gc m n ids rows ir ∧ H1.mine ir = some (ints .i64 (fillFar j n), 1)) ?_ n ?_
  case refine_2 =>
    refine ⟨0, by omega, by omega, ?_⟩
    simp only [↓Tr.get_set, Nat.reduceEqDiff, if_true, if_false, ↓reduceIte, Int.natCast_add, Int.cast_ofNat_Int, Int.natCast_zero, true_and, and_true, Option.some.injEq, Value.int.injEq, f0, f1, f2, f3, f4, f11, f12]
    rw [fillFar_zero]; exact ⟨hRA2, hcur2⟩
  clear hRA2 hcur2 H2 hRA hS1 hlim1 f0 f1 f2 f3 f4 f11 f12 fr H1
  rintro k fr H2 ⟨j, hj, rfl, f0, f1, f2, f3, f4, f11, f12, f13, f26, f27, hRA2, hcur⟩ J2 hJ2
  have hS2 := hRA2.same
  have hlim2 : H2.lim ≤ H2.len := hS2.wf.1
  have hirl := mine_lt hS2.wf hcur
  have hir0 := hRA2.io1
  have hir1 := hRA2.io2
  have hfl := fillFar_len hj
  repeat' (first | refine GW_seq ?_ | refine GW_line ?_ | refine Gw_nil ?_ | refine GN_seq ?_ | refine GN_blk ?_ | refine GW_block ?_ | refine GW_skip ?_ | refine GW_exit ?_ | refine GX_seq ?_ | refine GX_blk ?_ | refine GX_up rfl ?_ | refine GX_inv ?_ | refine GW_ret ?_ | refine GN_inv ?_ | refine GN_nil ?_ | refine GW_any rfl ?_ | refine Gp_nil ?_ | ((first | refine Gw_s fun K' hK' => ?_ | refine Gp_s fun K' hK' => ?_ | refine Gw_0 fun K' hK' => ?_ | intro K' hK'); (simp (disch := (first | (simp only [ints_length, List.length_set, List.length_cons, List.length_nil, List.length_replicate, len_put, len_add, lim_put, lim_add, flatV_int, flatV_bool, flatV_str, flatV_ptr, flatV_sl, List.all_cons, List.all_nil, Bool.and_self, List.size_toArray, Nat.reduceAdd, Nat.zero_add]; done) | omega | (simp only [ints_length, List.length_set, List.length_cons, List.length_nil, List.length_replicate, len_put, len_add, lim_put, lim_add, flatV_int, flatV_bool, flatV_str, flatV_ptr, flatV_sl, List.all_cons, List.all_nil, Bool.and_self, List.size_toArray, Nat.reduceAdd, Nat.zero_add] <;> omega) | fail)) only [↓gd_move, ↓gd_pick, ↓gd_alloc, ↓gd_load, ↓gd_bin, ↓gd_un, ↓gd_fa, ↓gd_ia, ↓gd_len, ↓gd_lenOf, ↓gd_store, ↓gd_ix, ↓gd_fld, ↓gd_cap, ↓gd_ext', ↓gd_conv, ↓gd_mk, ↓gd_app, ↓gd_copy, ↓gd_next, ↓gd_fn, ↓gd_min, ↓gd_max, ↓gd_slice, ↓gd_build, ↓gd_buildSl, ↓gd_box, ↓gd_nilc', ↓gd_rng, ↓gd_appM, ↓gM_move, ↓gM_pick, ↓gM_alloc, ↓gM_load, ↓gM_bin, ↓gM_un, ↓gM_fa, ↓gM_ia, ↓gM_len, ↓gM_lenOf, ↓gM_ix, ↓gM_fld, ↓gM_cap, ↓gM_ext, ↓gM_conv, ↓gM_mk, ↓gM_fn, ↓gM_min, ↓gM_max, ↓gM_slice, ↓gM_build, ↓gM_buildSl, ↓gM_box, ↓gM_nilc, ↓gM_rng, ↓gM_appM, ↓GArg.ev, ↓evs, ↓evOpt, ↓Tr.get_set, Option.bind_some, Option.map_some, add_none, gb_lss, gb_gtr, gb_leq, gb_geq, gb_add, gb_sub, gb_mul, gb_eql', gb_neq', gu_not, gu_neg, gfold_min1, gfold_max1, wr_i64, wr_i32, wr_u8, wr_u16, wr_u32, glen_sl, glen_str, gadd_ptr, gia_sl, gmake_sq, zeros_ints, zeros_sl, gld_1, gld_n, gst_1, gst_n, gset_ok, gsetn_all, rd_put_same, rd_put_ne, rd_add_eq, rd_add_ne, rdn_put_ne, rdn_add_ne, rdn_put_all, rdn_add_all, mine_put_same, mine_put_ne, mine_add_eq, mine_add_ne, len_put, len_add, lim_put, lim_add, ints_at, ints_set, ints_length, Option.map_map, List.getElem?_toArray, List.getElem?_cons_zero, List.getElem?_cons_succ, List.length_cons, List.length_nil, List.length_set, List.size_toArray, Int.toNat_natCast, Nat.mul_one, Nat.add_zero, Nat.zero_add, ite_true, ite_false, if_true, if_false, Bool.false_eq_true, ↓reduceIte, decide_true, decide_false, Bool.not_true, Bool.not_false, blk_sl, ofs_sl, Nat.reduceEqDiff, Nat.reduceAdd, Nat.reduceMul, reduceCtorEq, Int.reduceToNat, ↓evParts, fillL_1, fillL_0, List.replicate_zero, ints_nil, g35, f0, f1, f2, f3, f4, f11, f12, f13, f26, f27, hcur]; refine G1_go (hK' _ _ ?_); clear hK' K')) | ((first | refine Gw_dt fun A B C D hA hB hC hD => ?_ | refine Gw_df fun A B C D hA hB hC hD => ?_ | refine GW_cd fun A B C D hA hB hC hD => ?_); (simp only [↓Tr.get_set, Nat.reduceEqDiff, if_true, if_false, ↓reduceIte, g35, f0, f1, f2, f3, f4, f11, f12, f13, f26, f27, hcur]; first | (refine Gd_true (hA ?_); clear hA hB hC hD A B C D) | (refine Gd_false (hB ?_); clear hA hB hC hD A B C D) | (refine Gd_some (fun hc => hC ?_) (fun hc => hD ?_) <;> clear hA hB hC hD A B C D <;> (try simp only [decide_eq_true_eq, decide_eq_false_iff_not, Bool.not_eq_true', Bool.not_eq_false', Int.not_lt, Int.not_le, Bool.not_true, Bool.not_false, Bool.true_eq_false, Bool.false_eq_true, Decidable.not_not] at hc)))) | (refine GR.mk ?_; simp only [gresults, ↓Tr.get_set, Option.bind_some, Nat.reduceEqDiff, if_true, if_false, ↓reduceIte, gld_1, gld_n, g35, f0, f1, f2, f3, f4, f11, f12, f13, f26, f27, hcur]; refine ⟨_, rfl, ?_⟩; simp only [gone]))
  case refine_1.refine_1 h0 =>
    refine hJ2 _ _ ⟨n - (j + 1), by omega, j + 1, by omega, rfl, ?_⟩
    simp only [↓Tr.get_set, Nat.reduceEqDiff, if_true, if_false, ↓reduceIte, Int.natCast_add, Int.cast_ofNat_Int, Int.natCast_zero, true_and, and_true, Option.some.injEq, Value.int.injEq, f0, f1, f2, f3, f4, f11, f12, f13, f26]
    rw [← fillFar_next (by omega)]
    exact ⟨hRA2.young (hS2.put (by omega) hirl _) hRA2.b2 fun j hj => mine_put_ne (by omega), mine_put_same (mine_obj hcur).1⟩
  case refine_1.refine_2.refine_1 h0 h1 =>
    obtain rfl : m = 0 := by omega
    obtain rfl : n = j := by omega
    rw [fillFar_all] at hcur
    have hRA3 : RA H (H2.put ir (.cells (ints .i64 (rows 0)) 1 true)) io gc 0 n ids rows ir := hRA2.young (hS2.put (by omega) hirl _) hRA2.b2 fun j hj => mine_put_ne (by omega)
    have hcur3 : (H2.put ir (.cells (ints .i64 (rows 0)) 1 true)).mine ir = some (ints .i64 (rows 0), 1) := mine_put_same (mine_obj hcur).1
    rw [hp0, ← fillFar_all] at hRA3 hcur3
    generalize H2.put ir (.cells (ints .i64 ((fillFar n n).set dst 0)) 1 true) = H3 at hRA3 hcur3 ⊢
    rw [fillFar_all, ← hp0] at hcur3
    have hlim3 : H3.lim ≤ H3.len := hRA3.same.wf.1
    refine GW_loop (fun k fr H1 => H3 = H1 ∧ fr.get 0 = some (.int .i64 n) ∧ fr.get 1 = some (v) ∧ fr.get 2 = some (.int .i64 f) ∧ fr.get 3 = some (.int .i64 dst) ∧ fr.get 4 = some (.int .i64 s) ∧ fr.get 11 = some (.slice (some ⟨io, 0, none⟩) 0 gc) ∧ fr.get 12 = some (.int .i64 0) ∧ fr.get 13 = some (.slice (some ⟨ir, 0, none⟩) n (n + 1)) ∧ fr.get 15 = some (.int .i64 (f + 1))) ?_ 0 ?_
    case refine_2 =>
      refine ⟨rfl, ?_⟩
      simp only [↓Tr.get_set, Nat.reduceEqDiff, if_true, if_false, ↓reduceIte, Int.natCast_add, Int.cast_ofNat_Int, Int.natCast_zero, true_and, and_true, Option.some.injEq, Value.int.injEq, f0, f1, f2, f3, f4, f11, f12, f13]
    rintro k fr H1 ⟨hHH, f0, f1, f2, f3, f4, f11, f12, f13, f15⟩ J3 hJ3
    subst hHH
    repeat' (first | refine GW_seq ?_ | refine GW_line ?_ | refine Gw_nil ?_ | refine GN_seq ?_ | refine GN_blk ?_ | refine GW_block ?_ | refine GW_skip ?_ | refine GW_exit ?_ | refine GX_seq ?_ | refine GX_blk ?_ | refine GX_up rfl ?_ | refine GX_inv ?_ | refine GW_ret ?_ | refine GN_inv ?_ | refine GN_nil ?_ | refine GW_any rfl ?_ | refine Gp_nil ?_ | ((first | refine Gw_s fun K' hK' => ?_ | refine Gp_s fun K' hK' => ?_ | refine Gw_0 fun K' hK' => ?_ | intro K' hK'); (simp (disch := (first | (simp only [ints_length, List.length_set, List.length_cons, List.length_nil, List.length_replicate, len_put, len_add, lim_put, lim_add, flatV_int, flatV_bool, flatV_str, flatV_ptr, flatV_sl, List.all_cons, List.all_nil, Bool.and_self, List.size_toArray, Nat.reduceAdd, Nat.zero_add]; done) | omega | (simp only [ints_length, List.length_set, List.length_cons, List.length_nil, List.length_replicate, len_put, len_add, lim_put, lim_add, flatV_int, flatV_bool, flatV_str, flatV_ptr, flatV_sl, List.all_cons, List.all_nil, Bool.and_self, List.size_toArray, Nat.reduceAdd, Nat.zero_add] <;> omega) | fail)) only [↓gd_move, ↓gd_pick, ↓gd_alloc, ↓gd_load, ↓gd_bin, ↓gd_un, ↓gd_fa, ↓gd_ia, ↓gd_len, ↓gd_lenOf, ↓gd_store, ↓gd_ix, ↓gd_fld, ↓gd_cap, ↓gd_ext', ↓gd_conv, ↓gd_mk, ↓gd_app, ↓gd_copy, ↓gd_next, ↓gd_fn, ↓gd_min, ↓gd_max, ↓gd_slice, ↓gd_build, ↓gd_buildSl, ↓gd_box, ↓gd_nilc', ↓gd_rng, ↓gd_appM, ↓gM_move, ↓gM_pick, ↓gM_alloc, ↓gM_load, ↓gM_bin, ↓gM_un, ↓gM_fa, ↓gM_ia, ↓gM_len, ↓gM_lenOf, ↓gM_ix, ↓gM_fld, ↓gM_cap, ↓gM_ext, ↓gM_conv, ↓gM_mk, ↓gM_fn, ↓gM_min, ↓gM_max, ↓gM_slice, ↓gM_build, ↓gM_buildSl, ↓gM_box, ↓gM_nilc, ↓gM_rng, ↓gM_appM, ↓GArg.ev, ↓evs, ↓evOpt, ↓Tr.get_set, Option.bind_some, Option.map_some, add_none, gb_lss, gb_gtr, gb_leq, gb_geq, gb_add, gb_sub, gb_mul, gb_eql', gb_neq', gu_not, gu_neg, gfold_min1, gfold_max1, wr_i64, wr_i32, wr_u8, wr_u16, wr_u32, glen_sl, glen_str, gadd_ptr, gia_sl, gmake_sq, zeros_ints, zeros_sl, gld_1, gld_n, gst_1, gst_n, gset_ok, gsetn_all, rd_put_same, rd_put_ne, rd_add_eq, rd_add_ne, rdn_put_ne, rdn_add_ne, rdn_put_all, rdn_add_all, mine_put_same, mine_put_ne, mine_add_eq, mine_add_ne, len_put, len_add, lim_put, lim_add, ints_at, ints_set, ints_length, Option.map_map, List.getElem?_toArray, List.getElem?_cons_zero, List.getElem?_cons_succ, List.length_cons, List.length_nil, List.length_set, List.size_toArray, Int.toNat_natCast, Nat.mul_one, Nat.add_zero, Nat.zero_add, ite_true, ite_false, if_true, if_false, Bool.false_eq_true, ↓reduceIte, decide_true, decide_false, Bool.not_true, Bool.not_false, blk_sl, ofs_sl, Nat.reduceEqDiff, Nat.reduceAdd, Nat.reduceMul, reduceCtorEq, Int.reduceToNat, ↓evParts, fillL_1, fillL_0, List.replicate_zero, ints_nil, g35, f0, f1, f2, f3, f4, f11, f12, f13, f15]; refine G1_go (hK' _ _ ?_); clear hK' K')) | ((first | refine Gw_dt fun A B C D hA hB hC hD => ?_ | refine Gw_df fun A B C D hA hB hC hD => ?_ | refine GW_cd fun A B C D hA hB hC hD => ?_); (simp only [↓Tr.get_set, Nat.reduceEqDiff, if_true, if_false, ↓reduceIte, g35, f0, f1, f2, f3, f4, f11, f12, f13, f15]; first | (refine Gd_true (hA ?_); clear hA hB hC hD A B C D) | (refine Gd_false (hB ?_); clear hA hB hC hD A B C D) | (refine Gd_some (fun hc => hC ?_) (fun hc => hD ?_) <;> clear hA hB hC hD A B C D <;> (try simp only [decide_eq_true_eq, decide_eq_false_iff_not, Bool.not_eq_true', Bool.not_eq_false', Int.not_lt, Int.not_le, Bool.not_true, Bool.not_false, Bool.true_eq_false, Bool.false_eq_true, Decidable.not_not] at hc)))) | (refine GR.mk ?_; simp only [gresults, ↓Tr.get_set, Option.bind_some, Nat.reduceEqDiff, if_true, if_false, ↓reduceIte, gld_1, gld_n, g35, f0, f1, f2, f3, f4, f11, f12, f13, f15]; refine ⟨_, rfl, ?_⟩; simp only [gone]))
    refine Gw_s fun K' hK' => ?_
    simp (disch := (first | (simp only [ints_length, List.length_set, List.length_cons, List.length_nil, List.length_replicate, len_put, len_add, lim_put, lim_add, flatV_int, flatV_bool, flatV_str, flatV_ptr, flatV_sl, List.all_cons, List.all_nil, Bool.and_self, List.size_toArray, Nat.reduceAdd, Nat.zero_add]; done) | omega | (simp only [ints_length, List.length_set, List.length_cons, List.length_nil, List.length_replicate, len_put, len_add, lim_put, lim_add, flatV_int, flatV_bool, flatV_str, flatV_ptr, flatV_sl, List.all_cons, List.all_nil, Bool.and_self, List.size_toArray, Nat.reduceAdd, Nat.zero_add] <;> omega) | fail)) only [↓gd_move, ↓gd_pick, ↓gd_alloc, ↓gd_load, ↓gd_bin, ↓gd_un, ↓gd_fa, ↓gd_ia, ↓gd_len, ↓gd_lenOf, ↓gd_store, ↓gd_ix, ↓gd_fld, ↓gd_cap, ↓gd_ext', ↓gd_conv, ↓gd_mk, ↓gd_app, ↓gd_copy, ↓gd_next, ↓gd_fn, ↓gd_min, ↓gd_max, ↓gd_slice, ↓gd_build, ↓gd_buildSl, ↓gd_box, ↓gd_nilc', ↓gd_rng, ↓gd_appM, ↓gM_move, ↓gM_pick, ↓gM_alloc, ↓gM_load, ↓gM_bin, ↓gM_un, ↓gM_fa, ↓gM_ia, ↓gM_len, ↓gM_lenOf, ↓gM_ix, ↓gM_fld, ↓gM_cap, ↓gM_ext, ↓gM_conv, ↓gM_mk, ↓gM_fn, ↓gM_min, ↓gM_max, ↓gM_slice, ↓gM_build, ↓gM_buildSl, ↓gM_box, ↓gM_nilc, ↓gM_rng, ↓gM_appM, ↓GArg.ev, ↓evs, ↓evOpt, ↓Tr.get_set, Option.bind_some, Option.map_some, add_none, gb_lss, gb_gtr, gb_leq, gb_geq, gb_add, gb_sub, gb_mul, gb_eql', gb_neq', gu_not, gu_neg, gfold_min1, gfold_max1, wr_i64, wr_i32, wr_u8, wr_u16, wr_u32, glen_sl, glen_str, gadd_ptr, gia_sl, gmake_sq, zeros_ints, zeros_sl, gld_1, gld_n, gst_1, gst_n, gset_ok, gsetn_all, rd_put_same, rd_put_ne, rd_add_eq, rd_add_ne, rdn_put_ne, rdn_add_ne, rdn_put_all, rdn_add_all, mine_put_same, mine_put_ne, mine_add_eq, mine_add_ne, len_put, len_add, lim_put, lim_add, ints_at, ints_set, ints_length, Option.map_map, List.getElem?_toArray, List.getElem?_cons_zero, List.getElem?_cons_succ, List.length_cons, List.length_nil, List.length_set, List.size_toArray, Int.toNat_natCast, Nat.mul_one, Nat.add_zero, Nat.zero_add, ite_true, ite_false, if_true, if_false, Bool.false_eq_true, ↓reduceIte, decide_true, decide_false, Bool.not_true, Bool.not_false, blk_sl, ofs_sl, Nat.reduceEqDiff, Nat.reduceAdd, Nat.reduceMul, reduceCtorEq, Int.reduceToNat, ↓evParts, fillL_1, fillL_0, List.replicate_zero, ints_nil, f0, f1, f2, f3, f4, f11, f12, f13, f15]
    have hRA4 := hRA3.young (hRA3.same.add (.cells [slv n ir] 1 true)) (by rw [len_add]; have := hRA3.b2; omega) fun j hj => mine_add_ne (by have := hRA3.b2; omega)
    have hil3 := mine_lt hRA3.same.wf hcur3
    obtain ⟨v', H', e, io', gc', rfl, hRA5⟩ := hRA4.app (ir := ir) (ix := H3.len) (d := rows 0) (by omega) (Nat.le_refl _) hil3 (by rw [mine_add_ne (by omega)]; exact hcur3) (mine_add_eq rfl hlim3)
    refine G1_eq e (hK' _ _ ?_)
    clear hK' K'
    repeat' (first | refine GW_seq ?_ | refine GW_line ?_ | refine Gw_nil ?_ | refine GN_seq ?_ | refine GN_blk ?_ | refine GW_block ?_ | refine GW_skip ?_ | refine GW_exit ?_ | refine GX_seq ?_ | refine GX_blk ?_ | refine GX_up rfl ?_ | refine GX_inv ?_ | refine GW_ret ?_ | refine GN_inv ?_ | refine GN_nil ?_ | refine GW_any rfl ?_ | refine Gp_nil ?_ | ((first | refine Gw_s fun K' hK' => ?_ | refine Gp_s fun K' hK' => ?_ | refine Gw_0 fun K' hK' => ?_ | intro K' hK'); (simp (disch := (first | (simp only [ints_length, List.length_set, List.length_cons, List.length_nil, List.length_replicate, len_put, len_add, lim_put, lim_add, flatV_int, flatV_bool, flatV_str, flatV_ptr, flatV_sl, List.all_cons, List.all_nil, Bool.and_self, List.size_toArray, Nat.reduceAdd, Nat.zero_add]; done) | omega | (simp only [ints_length, List.length_set, List.length_cons, List.length_nil, List.length_replicate, len_put, len_add, lim_put, lim_add, flatV_int, flatV_bool, flatV_str, flatV_ptr, flatV_sl, List.all_cons, List.all_nil, Bool.and_self, List.size_toArray, Nat.reduceAdd, Nat.zero_add] <;> omega) | fail)) only [↓gd_move, ↓gd_pick, ↓gd_alloc, ↓gd_load, ↓gd_bin, ↓gd_un, ↓gd_fa, ↓gd_ia, ↓gd_len, ↓gd_lenOf, ↓gd_store, ↓gd_ix, ↓gd_fld, ↓gd_cap, ↓gd_ext', ↓gd_conv, ↓gd_mk, ↓gd_app, ↓gd_copy, ↓gd_next, ↓gd_fn, ↓gd_min, ↓gd_max, ↓gd_slice, ↓gd_build, ↓gd_buildSl, ↓gd_box, ↓gd_nilc', ↓gd_rng, ↓gd_appM, ↓gM_move, ↓gM_pick, ↓gM_alloc, ↓gM_load, ↓gM_bin, ↓gM_un, ↓gM_fa, ↓gM_ia, ↓gM_len, ↓gM_lenOf, ↓gM_ix, ↓gM_fld, ↓gM_cap, ↓gM_ext, ↓gM_conv, ↓gM_mk, ↓gM_fn, ↓gM_min, ↓gM_max, ↓gM_slice, ↓gM_build, ↓gM_buildSl, ↓gM_box, ↓gM_nilc, ↓gM_rng, ↓gM_appM, ↓GArg.ev, ↓evs, ↓evOpt, ↓Tr.get_set, Option.bind_some, Option.map_some, add_none, gb_lss, gb_gtr, gb_leq, gb_geq, gb_add, gb_sub, gb_mul, gb_eql', gb_neq', gu_not, gu_neg, gfold_min1, gfold_max1, wr_i64, wr_i32, wr_u8, wr_u16, wr_u32, glen_sl, glen_str, gadd_ptr, gia_sl, gmake_sq, zeros_ints, zeros_sl, gld_1, gld_n, gst_1, gst_n, gset_ok, gsetn_all, rd_put_same, rd_put_ne, rd_add_eq, rd_add_ne, rdn_put_ne, rdn_add_ne, rdn_put_all, rdn_add_all, mine_put_same, mine_put_ne, mine_add_eq, mine_add_ne, len_put, len_add, lim_put, lim_add, ints_at, ints_set, ints_length, Option.map_map, List.getElem?_toArray, List.getElem?_cons_zero, List.getElem?_cons_succ, List.length_cons, List.length_nil, List.length_set, List.size_toArray, Int.toNat_natCast, Nat.mul_one, Nat.add_zero, Nat.zero_add, ite_true, ite_false, if_true, if_false, Bool.false_eq_true, ↓reduceIte, decide_true, decide_false, Bool.not_true, Bool.not_false, blk_sl, ofs_sl, Nat.reduceEqDiff, Nat.reduceAdd, Nat.reduceMul, reduceCtorEq, Int.reduceToNat, ↓evParts, fillL_1, fillL_0, List.replicate_zero, ints_nil, g35, f0, f1, f2, f3, f4, f11, f12, f13, f15]; refine G1_go (hK' _ _ ?_); clear hK' K')) | ((first | refine Gw_dt fun A B C D hA hB hC hD => ?_ | refine Gw_df fun A B C D hA hB hC hD => ?_ | refine GW_cd fun A B C D hA hB hC hD => ?_); (simp only [↓Tr.get_set, Nat.reduceEqDiff, if_true, if_false, ↓reduceIte, g35, f0, f1, f2, f3, f4, f11, f12, f13, f15]; first | (refine Gd_true (hA ?_); clear hA hB hC hD A B C D) | (refine Gd_false (hB ?_); clear hA hB hC hD A B C D) | (refine Gd_some (fun hc => hC ?_) (fun hc => hD ?_) <;> clear hA hB hC hD A B C D <;> (try simp only [decide_eq_true_eq, decide_eq_false_iff_not, Bool.not_eq_true', Bool.not_eq_false', Int.not_lt, Int.not_le, Bool.not_true, Bool.not_false, Bool.true_eq_false, Bool.false_eq_true, Decidable.not_not] at hc)))) | (refine GR.mk ?_; simp only [gresults, ↓Tr.get_set, Option.bind_some, Nat.reduceEqDiff, if_true, if_false, ↓reduceIte, gld_1, gld_n, g35, f0, f1, f2, f3, f4, f11, f12, f13, f15]; refine ⟨_, rfl, ?_⟩; simp only [gone]))
    refine hJ _ _ ⟨s + 1 - (0 + 1), by omega, 0 + 1, io', gc', ids ++ [ir], by omega, rfl, ?_⟩
    simp only [↓Tr.get_set, Nat.reduceEqDiff, if_true, if_false, ↓reduceIte, Int.natCast_add, Int.cast_ofNat_Int, Int.natCast_zero, true_and, and_true, Option.some.injEq, Value.int.injEq, f0, f1, f2, f3, f4]
    exact ⟨hRA5.same, hRA5.io1, hRA5.io2, hRA5.b2, hRA5.len, hRA5.gc_, hRA5.out, hRA5.id, fun k hk => by rw [hRA5.row k hk]; unfold updR; split <;> simp_all⟩
  case refine_1.refine_2.refine_2 h0 h1 =>
  obtain rfl : n = j := by omega
  obtain ⟨q, rfl⟩ : ∃ q, m = q + 1 := ⟨m - 1, by omega⟩
  rw [fillFar_all] at hcur
  refine GW_loop (fun k fr H1 => ∃ (i : Nat), f + 1 ≤ i ∧ i ≤ l.length ∧ k = l.length - i ∧ fr.get 0 = some (.int .i64 n) ∧ fr.get 1 = some (v) ∧ fr.get 2 = some (.int .i64 f) ∧ fr.get 3 = some (.int .i64 dst) ∧ fr.get 4 = some (.int .i64 s) ∧ fr.get 11 = some (.slice (some ⟨io, 0, none⟩) (q + 1) gc) ∧ fr.get 12 = some (.int .i64 (q + 1 : Nat)) ∧ fr.get 13 = some (.slice (some ⟨ir, 0, none⟩) n (n + 1)) ∧ fr.get 15 = some (.int .i64 i) ∧
    RA H H1 io gc (q + 1) n ids rows ir ∧ H1.mine ir = some (ints .i64 ((((l.drop (f + 1)).take (i - (f + 1))).map edge).foldl (pre1 (rows q)) (List.replicate n far)), 1)) ?_ (l.length - (f + 1)) ?_
  case refine_2 =>
    refine ⟨f + 1, Nat.le_refl _, by omega, rfl, ?_⟩
    simp only [↓Tr.get_set, Nat.reduceEqDiff, if_true, if_false, ↓reduceIte, Int.natCast_add, Int.cast_ofNat_Int, Int.natCast_zero, true_and, and_true, Option.some.injEq, Value.int.injEq, f0, f1, f2, f3, f4, f11, f12, f13]
    rw [Nat.sub_self]; exact ⟨hRA2, hcur⟩
  clear hRA2 hcur hS2 hlim2 hirl hir0 hir1 hfl f0 f1 f2 f3 f4 f11 f12 f13 f26 f27
  rintro k fr H3 ⟨i, hi0, hi, rfl, f0, f1, f2, f3, f4, f11, f12, f13, f15, hRA3, hcur3⟩ J3 hJ3
  have hS3 := hRA3.same
  have hwl := hS3.wf.1
  have hirl := mine_lt hS3.wf hcur3
  have hir0 := hRA3.io1
  have hir1 := hRA3.io2
  have hb2 := hRA3.b2
  have hrdo := fun o => mine_rd (o := o) hRA3.out
  have hrq := hRA3.row q (by omega)
  have hrdq := fun o => mine_rd (o := o) hrq
  have hrdr := fun o => mine_rd (o := o) hcur3
  have htq : (tab (q + 1) ids n)[q]? = some (.slice (some ⟨ids[q]!, 0, none⟩) n (n + 1)) := tab_get (by omega) (by have := hRA3.len; omega)
  have htn1 : (((q + 1 : Nat) : Int) - 1).toNat = q := by omega
  have hbd : ∀ k : Nat, k < l.length → H3.rdn (blk v) (ofs v + k * 6) 6 = some (bdv l[k]!) := fun k hk => by
    rw [hS3.rdn (hl.lt (by omega))]; exact hl.bd hk
  have hbI : ∀ k : Nat, k < l.length → H3.rd (blk v) (ofs v + k * 6) = some (.int .i64 l[k]!.I) := fun k hk => by
    rw [hS3.rd (hl.lt (by omega)), hl.rd (by rw [Bds_len]; omega), show k * 6 = k * 6 + 0 from rfl, Bds_at l k hk 0 (by omega), getElem!_pos l k hk]; rfl
  have hbJ : ∀ k : Nat, k < l.length → H3.rd (blk v) (ofs v + k * 6 + 1) = some (.int .i64 l[k]!.J) := fun k hk => by
    rw [hS3.rd (hl.lt (by omega)), Nat.add_assoc, hl.rd (by rw [Bds_len]; omega), Bds_at l k hk 1 (by omega), getElem!_pos l k hk]; rfl
  have hbC : ∀ k : Nat, k < l.length → H3.rd (blk v) (ofs v + k * 6 + 2) = some (.int .i64 l[k]!.C) := fun k hk => by
    rw [hS3.rd (hl.lt (by omega)), Nat.add_assoc, hl.rd (by rw [Bds_len]; omega), Bds_at l k hk 2 (by omega), getElem!_pos l k hk]; rfl
  have hbl := hl.lt
  have hvb : i < l.length → 0 ≤ l[i]!.I ∧ l[i]!.I < n ∧ 0 ≤ l[i]!.J ∧ l[i]!.J < n ∧ -1099511627776 ≤ l[i]!.C ∧ l[i]!.C ≤ 1099511627776 := fun h => by
    rw [getElem!_pos l i h]; exact hv _ (List.getElem_mem h)
  have hp1 := fun h : i < l.length => sml_at (hsm q) (by omega) l[i]!.J.toNat
  have hpl := hrl q
  generalize hd0 : (((l.drop (f + 1)).take (i - (f + 1))).map edge).foldl (pre1 (rows q)) (List.replicate n far) = d0 at *
  have hdl : d0.length = n := by rw [← hd0, foldl_pre_len]; simp
  have hds : Sml (q + 1) d0 := by
    rw [← hd0]
    exact foldl_pre_sml (hsm q) _ _ (fun e he => hV2.csm e (by obtain ⟨b, hb, rfl⟩ := List.mem_map.1 he; exact List.mem_map.2 ⟨b, List.mem_of_mem_take hb, rfl⟩)) (Sml.far_ _ n)
  have hd1 := fun h : i < l.length => sml_at hds (by omega) l[i]!.I.toNat
  generalize hpr : rows q = prev at *
  repeat' (first | refine GW_seq ?_ | refine GW_line ?_ | refine Gw_nil ?_ | refine GN_seq ?_ | refine GN_blk ?_ | refine GW_block ?_ | refine GW_skip ?_ | refine GW_exit ?_ | refine GX_seq ?_ | refine GX_blk ?_ | refine GX_up rfl ?_ | refine GX_inv ?_ | refine GW_ret ?_ | refine GN_inv ?_ | refine GN_nil ?_ | refine GW_any rfl ?_ | refine Gp_nil ?_ | ((first | refine Gw_s fun K' hK' => ?_ | refine Gp_s fun K' hK' => ?_ | refine Gw_0 fun K' hK' => ?_ | intro K' hK'); (simp (disch := (first | (simp only [ints_length, List.length_set, List.length_cons, List.length_nil, List.length_replicate, len_put, len_add, lim_put, lim_add, flatV_int, flatV_bool, flatV_str, flatV_ptr, flatV_sl, List.all_cons, List.all_nil, Bool.and_self, List.size_toArray, Nat.reduceAdd, Nat.zero_add]; done) | omega | (simp only [ints_length, List.length_set, List.length_cons, List.length_nil, List.length_replicate, len_put, len_add, lim_put, lim_add, flatV_int, flatV_bool, flatV_str, flatV_ptr, flatV_sl, List.all_cons, List.all_nil, Bool.and_self, List.size_toArray, Nat.reduceAdd, Nat.zero_add] <;> omega) | fail)) only [↓gd_move, ↓gd_pick, ↓gd_alloc, ↓gd_load, ↓gd_bin, ↓gd_un, ↓gd_fa, ↓gd_ia, ↓gd_len, ↓gd_lenOf, ↓gd_store, ↓gd_ix, ↓gd_fld, ↓gd_cap, ↓gd_ext', ↓gd_conv, ↓gd_mk, ↓gd_app, ↓gd_copy, ↓gd_next, ↓gd_fn, ↓gd_min, ↓gd_max, ↓gd_slice, ↓gd_build, ↓gd_buildSl, ↓gd_box, ↓gd_nilc', ↓gd_rng, ↓gd_appM, ↓gM_move, ↓gM_pick, ↓gM_alloc, ↓gM_load, ↓gM_bin, ↓gM_un, ↓gM_fa, ↓gM_ia, ↓gM_len, ↓gM_lenOf, ↓gM_ix, ↓gM_fld, ↓gM_cap, ↓gM_ext, ↓gM_conv, ↓gM_mk, ↓gM_fn, ↓gM_min, ↓gM_max, ↓gM_slice, ↓gM_build, ↓gM_buildSl, ↓gM_box, ↓gM_nilc, ↓gM_rng, ↓gM_appM, ↓GArg.ev, ↓evs, ↓evOpt, ↓Tr.get_set, Option.bind_some, Option.map_some, add_none, gb_lss, gb_gtr, gb_leq, gb_geq, gb_add, gb_sub, gb_mul, gb_eql', gb_neq', gu_not, gu_neg, gfold_min1, gfold_max1, wr_i64, wr_i32, wr_u8, wr_u16, wr_u32, glen_sl, glen_str, gadd_ptr, gia_sl, gmake_sq, zeros_ints, zeros_sl, gld_1, gld_n, gst_1, gst_n, gset_ok, gsetn_all, rd_put_same, rd_put_ne, rd_add_eq, rd_add_ne, rdn_put_ne, rdn_add_ne, rdn_put_all, rdn_add_all, mine_put_same, mine_put_ne, mine_add_eq, mine_add_ne, len_put, len_add, lim_put, lim_add, ints_at, ints_set, ints_length, Option.map_map, List.getElem?_toArray, List.getElem?_cons_zero, List.getElem?_cons_succ, List.length_cons, List.length_nil, List.length_set, List.size_toArray, Int.toNat_natCast, Nat.mul_one, Nat.add_zero, Nat.zero_add, ite_true, ite_false, if_true, if_false, Bool.false_eq_true, ↓reduceIte, decide_true, decide_false, Bool.not_true, Bool.not_false, blk_sl, ofs_sl, Nat.reduceEqDiff, Nat.reduceAdd, Nat.reduceMul, reduceCtorEq, Int.reduceToNat, ↓evParts, fillL_1, fillL_0, List.replicate_zero, ints_nil, g35, f0, f1, f2, f3, f4, f11, f12, f13, f15, hrdo, hrdq, hrdr, hcur3, htq, htn1, hsl.ia, hsl.len, hbI, hbJ, hbC]; refine G1_go (hK' _ _ ?_); clear hK' K')) | ((first | refine Gw_dt fun A B C D hA hB hC hD => ?_ | refine Gw_df fun A B C D hA hB hC hD => ?_ | refine GW_cd fun A B C D hA hB hC hD => ?_); (simp only [↓Tr.get_set, Nat.reduceEqDiff, if_true, if_false, ↓reduceIte, g35, f0, f1, f2, f3, f4, f11, f12, f13, f15, hrdo, hrdq, hrdr, hcur3, htq, htn1, hsl.ia, hsl.len, hbI, hbJ, hbC]; first | (refine Gd_true (hA ?_); clear hA hB hC hD A B C D) | (refine Gd_false (hB ?_); clear hA hB hC hD A B C D) | (refine Gd_some (fun hc => hC ?_) (fun hc => hD ?_) <;> clear hA hB hC hD A B C D <;> (try simp only [decide_eq_true_eq, decide_eq_false_iff_not, Bool.not_eq_true', Bool.not_eq_false', Int.not_lt, Int.not_le, Bool.not_true, Bool.not_false, Bool.true_eq_false, Bool.false_eq_true, Decidable.not_not] at hc)))) | (refine GR.mk ?_; simp only [gresults, ↓Tr.get_set, Option.bind_some, Nat.reduceEqDiff, if_true, if_false, ↓reduceIte, gld_1, gld_n, g35, f0, f1, f2, f3, f4, f11, f12, f13, f15, hrdo, hrdq, hrdr, hcur3, htq, htn1, hsl.ia, hsl.len, hbI, hbJ, hbC]; refine ⟨_, rfl, ?_⟩; simp only [gone]))
  case refine_1.refine_2 h0 => omega
  case refine_1.refine_1.refine_1.refine_1.refine_1 h0 h1 h2 h3 =>
    refine hJ3 _ _ ⟨l.length - (i + 1), by omega, i + 1, by omega, by omega, rfl, ?_⟩
    simp only [↓Tr.get_set, Nat.reduceEqDiff, if_true, if_false, ↓reduceIte, Int.natCast_add, Int.cast_ofNat_Int, Int.natCast_zero, true_and, and_true, Option.some.injEq, Value.int.injEq, f0, f1, f2, f3, f4, f11, f12, f13]
    rw [drop_take_next (by omega) hi0, List.foldl_append, hd0, List.foldl_cons, List.foldl_nil, pre1_yes h3 hc]
    exact ⟨hRA3.young (hS3.put (by omega) hirl _) hRA3.b2 fun j hj => mine_put_ne (by omega), mine_put_same (mine_obj hcur3).1⟩
  case refine_1.refine_1.refine_1.refine_1.refine_2 h0 h1 h2 h3 =>
    refine hJ3 _ _ ⟨l.length - (i + 1), by omega, i + 1, by omega, by omega, rfl, ?_⟩
    simp only [↓Tr.get_set, Nat.reduceEqDiff, if_true, if_false, ↓reduceIte, Int.natCast_add, Int.cast_ofNat_Int, Int.natCast_zero, true_and, and_true, Option.some.injEq, Value.int.injEq, f0, f1, f2, f3, f4, f11, f12, f13]
    rw [drop_take_next (by omega) hi0, List.foldl_append, hd0, List.foldl_cons, List.foldl_nil, pre1_no2 (.inr hc)]
    exact ⟨hRA3, hcur3⟩
  case refine_1.refine_1.refine_1.refine_2 h0 h1 h2 =>
    refine hJ3 _ _ ⟨l.length - (i + 1), by omega, i + 1, by omega, by omega, rfl, ?_⟩
    simp only [↓Tr.get_set, Nat.reduceEqDiff, if_true, if_false, ↓reduceIte, Int.natCast_add, Int.cast_ofNat_Int, Int.natCast_zero, true_and, and_true, Option.some.injEq, Value.int.injEq, f0, f1, f2, f3, f4, f11, f12, f13]
    rw [drop_take_next (by omega) hi0, List.foldl_append, hd0, List.foldl_cons, List.foldl_nil, pre1_no2 (.inl (by have := hp1 (by omega); omega))]
    exact ⟨hRA3, hcur3⟩
  case refine_1.refine_1.refine_2 h0 h1 =>
    refine Gw_s fun K' hK' => ?_
    simp (disch := (first | (simp only [ints_length, List.length_set, List.length_cons, List.length_nil, List.length_replicate, len_put, len_add, lim_put, lim_add, flatV_int, flatV_bool, flatV_str, flatV_ptr, flatV_sl, List.all_cons, List.all_nil, Bool.and_self, List.size_toArray, Nat.reduceAdd, Nat.zero_add]; done) | omega | (simp only [ints_length, List.length_set, List.length_cons, List.length_nil, List.length_replicate, len_put, len_add, lim_put, lim_add, flatV_int, flatV_bool, flatV_str, flatV_ptr, flatV_sl, List.all_cons, List.all_nil, Bool.and_self, List.size_toArray, Nat.reduceAdd, Nat.zero_add] <;> omega) | fail)) only [↓gd_move, ↓gd_pick, ↓gd_alloc, ↓gd_load, ↓gd_bin, ↓gd_un, ↓gd_fa, ↓gd_ia, ↓gd_len, ↓gd_lenOf, ↓gd_store, ↓gd_ix, ↓gd_fld, ↓gd_cap, ↓gd_ext', ↓gd_conv, ↓gd_mk, ↓gd_app, ↓gd_copy, ↓gd_next, ↓gd_fn, ↓gd_min, ↓gd_max, ↓gd_slice, ↓gd_build, ↓gd_buildSl, ↓gd_box, ↓gd_nilc', ↓gd_rng, ↓gd_appM, ↓gM_move, ↓gM_pick, ↓gM_alloc, ↓gM_load, ↓gM_bin, ↓gM_un, ↓gM_fa, ↓gM_ia, ↓gM_len, ↓gM_lenOf, ↓gM_ix, ↓gM_fld, ↓gM_cap, ↓gM_ext, ↓gM_conv, ↓gM_mk, ↓gM_fn, ↓gM_min, ↓gM_max, ↓gM_slice, ↓gM_build, ↓gM_buildSl, ↓gM_box, ↓gM_nilc, ↓gM_rng, ↓gM_appM, ↓GArg.ev, ↓evs, ↓evOpt, ↓Tr.get_set, Option.bind_some, Option.map_some, add_none, gb_lss, gb_gtr, gb_leq, gb_geq, gb_add, gb_sub, gb_mul, gb_eql', gb_neq', gu_not, gu_neg, gfold_min1, gfold_max1, wr_i64, wr_i32, wr_u8, wr_u16, wr_u32, glen_sl, glen_str, gadd_ptr, gia_sl, gmake_sq, zeros_ints, zeros_sl, gld_1, gld_n, gst_1, gst_n, gset_ok, gsetn_all, rd_put_same, rd_put_ne, rd_add_eq, rd_add_ne, rdn_put_ne, rdn_add_ne, rdn_put_all, rdn_add_all, mine_put_same, mine_put_ne, mine_add_eq, mine_add_ne, len_put, len_add, lim_put, lim_add, ints_at, ints_set, ints_length, Option.map_map, List.getElem?_toArray, List.getElem?_cons_zero, List.getElem?_cons_succ, List.length_cons, List.length_nil, List.length_set, List.size_toArray, Int.toNat_natCast, Nat.mul_one, Nat.add_zero, Nat.zero_add, ite_true, ite_false, if_true, if_false, Bool.false_eq_true, ↓reduceIte, decide_true, decide_false, Bool.not_true, Bool.not_false, blk_sl, ofs_sl, Nat.reduceEqDiff, Nat.reduceAdd, Nat.reduceMul, reduceCtorEq, Int.reduceToNat, ↓evParts, fillL_1, fillL_0, List.replicate_zero, ints_nil, f0, f1, f2, f3, f4, f11, f12, f13, f15]
    have hRA4 := hRA3.young (hRA3.same.add (.cells [slv n ir] 1 true)) (by rw [len_add]; have := hRA3.b2; omega) fun j hj => mine_add_ne (by have := hRA3.b2; omega)
    have hlen3 : H3.len = H3.len := rfl
    obtain ⟨v', H', e, io', gc', rfl, hRA5⟩ := hRA4.app (ir := ir) (ix := H3.len) (d := d0) (by omega) (Nat.le_refl _) hirl (by rw [mine_add_ne (by omega)]; exact hcur3) (mine_add_eq rfl hwl)
    refine G1_eq e (hK' _ _ ?_)
    clear hK' K'
    repeat' (first | refine GW_seq ?_ | refine GW_line ?_ | refine Gw_nil ?_ | refine GN_seq ?_ | refine GN_blk ?_ | refine GW_block ?_ | refine GW_skip ?_ | refine GW_exit ?_ | refine GX_seq ?_ | refine GX_blk ?_ | refine GX_up rfl ?_ | refine GX_inv ?_ | refine GW_ret ?_ | refine GN_inv ?_ | refine GN_nil ?_ | refine GW_any rfl ?_ | refine Gp_nil ?_ | ((first | refine Gw_s fun K' hK' => ?_ | refine Gp_s fun K' hK' => ?_ | refine Gw_0 fun K' hK' => ?_ | intro K' hK'); (simp (disch := (first | (simp only [ints_length, List.length_set, List.length_cons, List.length_nil, List.length_replicate, len_put, len_add, lim_put, lim_add, flatV_int, flatV_bool, flatV_str, flatV_ptr, flatV_sl, List.all_cons, List.all_nil, Bool.and_self, List.size_toArray, Nat.reduceAdd, Nat.zero_add]; done) | omega | (simp only [ints_length, List.length_set, List.length_cons, List.length_nil, List.length_replicate, len_put, len_add, lim_put, lim_add, flatV_int, flatV_bool, flatV_str, flatV_ptr, flatV_sl, List.all_cons, List.all_nil, Bool.and_self, List.size_toArray, Nat.reduceAdd, Nat.zero_add] <;> omega) | fail)) only [↓gd_move, ↓gd_pick, ↓gd_alloc, ↓gd_load, ↓gd_bin, ↓gd_un, ↓gd_fa, ↓gd_ia, ↓gd_len, ↓gd_lenOf, ↓gd_store, ↓gd_ix, ↓gd_fld, ↓gd_cap, ↓gd_ext', ↓gd_conv, ↓gd_mk, ↓gd_app, ↓gd_copy, ↓gd_next, ↓gd_fn, ↓gd_min, ↓gd_max, ↓gd_slice, ↓gd_build, ↓gd_buildSl, ↓gd_box, ↓gd_nilc', ↓gd_rng, ↓gd_appM, ↓gM_move, ↓gM_pick, ↓gM_alloc, ↓gM_load, ↓gM_bin, ↓gM_un, ↓gM_fa, ↓gM_ia, ↓gM_len, ↓gM_lenOf, ↓gM_ix, ↓gM_fld, ↓gM_cap, ↓gM_ext, ↓gM_conv, ↓gM_mk, ↓gM_fn, ↓gM_min, ↓gM_max, ↓gM_slice, ↓gM_build, ↓gM_buildSl, ↓gM_box, ↓gM_nilc, ↓gM_rng, ↓gM_appM, ↓GArg.ev, ↓evs, ↓evOpt, ↓Tr.get_set, Option.bind_some, Option.map_some, add_none, gb_lss, gb_gtr, gb_leq, gb_geq, gb_add, gb_sub, gb_mul, gb_eql', gb_neq', gu_not, gu_neg, gfold_min1, gfold_max1, wr_i64, wr_i32, wr_u8, wr_u16, wr_u32, glen_sl, glen_str, gadd_ptr, gia_sl, gmake_sq, zeros_ints, zeros_sl, gld_1, gld_n, gst_1, gst_n, gset_ok, gsetn_all, rd_put_same, rd_put_ne, rd_add_eq, rd_add_ne, rdn_put_ne, rdn_add_ne, rdn_put_all, rdn_add_all, mine_put_same, mine_put_ne, mine_add_eq, mine_add_ne, len_put, len_add, lim_put, lim_add, ints_at, ints_set, ints_length, Option.map_map, List.getElem?_toArray, List.getElem?_cons_zero, List.getElem?_cons_succ, List.length_cons, List.length_nil, List.length_set, List.size_toArray, Int.toNat_natCast, Nat.mul_one, Nat.add_zero, Nat.zero_add, ite_true, ite_false, if_true, if_false, Bool.false_eq_true, ↓reduceIte, decide_true, decide_false, Bool.not_true, Bool.not_false, blk_sl, ofs_sl, Nat.reduceEqDiff, Nat.reduceAdd, Nat.reduceMul, reduceCtorEq, Int.reduceToNat, ↓evParts, fillL_1, fillL_0, List.replicate_zero, ints_nil, g35, f0, f1, f2, f3, f4, f11, f12, f13, f15]; refine G1_go (hK' _ _ ?_); clear hK' K')) | ((first | refine Gw_dt fun A B C D hA hB hC hD => ?_ | refine Gw_df fun A B C D hA hB hC hD => ?_ | refine GW_cd fun A B C D hA hB hC hD => ?_); (simp only [↓Tr.get_set, Nat.reduceEqDiff, if_true, if_false, ↓reduceIte, g35, f0, f1, f2, f3, f4, f11, f12, f13, f15]; first | (refine Gd_true (hA ?_); clear hA hB hC hD A B C D) | (refine Gd_false (hB ?_); clear hA hB hC hD A B C D) | (refine Gd_some (fun hc => hC ?_) (fun hc => hD ?_) <;> clear hA hB hC hD A B C D <;> (try simp only [decide_eq_true_eq, decide_eq_false_iff_not, Bool.not_eq_true', Bool.not_eq_false', Int.not_lt, Int.not_le, Bool.not_true, Bool.not_false, Bool.true_eq_false, Bool.false_eq_true, Decidable.not_not] at hc)))) | (refine GR.mk ?_; simp only [gresults, ↓Tr.get_set, Option.bind_some, Nat.reduceEqDiff, if_true, if_false, ↓reduceIte, gld_1, gld_n, g35, f0, f1, f2, f3, f4, f11, f12, f13, f15]; refine ⟨_, rfl, ?_⟩; simp only [gone]))
    obtain rfl : i = l.length := by omega
    have hd1 : rows (q + 1) = d0 := by rw [hpS, hpr, ← hd0, List.take_of_length_le (by rw [List.length_drop]; omega)]
    refine hJ _ _ ⟨s + 1 - (q + 1 + 1), by omega, q + 1 + 1, io', gc', ids ++ [ir], by omega, rfl, ?_⟩
    simp only [↓Tr.get_set, Nat.reduceEqDiff, if_true, if_false, ↓reduceIte, Int.natCast_add, Int.cast_ofNat_Int, Int.natCast_zero, true_and, and_true, Option.some.injEq, Value.int.injEq, f0, f1, f2, f3, f4, f12]
    exact ⟨hRA5.same, hRA5.io1, hRA5.io2, hRA5.b2, hRA5.len, hRA5.gc_, hRA5.out, hRA5.id, fun k hk => by rw [hRA5.row k hk]; unfold updR; split <;> simp_all⟩
end Go.Gh
