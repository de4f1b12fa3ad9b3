/-
  conflict of diffcon, walked.
-/
import Derived.Test.YtfcbdkbdalbjmaaDgRest
namespace Go.Gh
set_option linter.unusedSimpArgs false
set_option linter.unusedVariables false
open Go.RowKit
set_option maxRecDepth 4000

instance : Inhabited Ed := ⟨⟨0, 0, 0⟩⟩
def goodE (es : List Ed) (d : List Int) (at_ : Nat) (sum : Int) (i : Nat) : Bool := decide (es[i]!.i = at_) && (decide (gx d es[i]!.j ≠ far) && decide (sum + es[i]!.c + gx d es[i]!.j < 0))
def pickE (es : List Ed) (d : List Int) (at_ : Nat) (sum : Int) (i : Nat) : Option Nat := (List.range' i (es.length - i)).find? (goodE es d at_ sum)
def greedyE (es : List Ed) (f : Nat) (rows : Nat → List Int) : Nat → Nat → Int → List Nat
  | 0, _, _ => []
  | r + 1, at_, sum => match pickE es (rows r) at_ sum (f + 1) with
    | some i => i :: greedyE es f rows r es[i]!.j (sum + es[i]!.c)
    | none => greedyE es f rows r at_ sum
def confAt (n : Nat) (es : List Ed) (z f : Nat) : Option (List Nat) :=
  if gx (preRows n (es.drop (f + 1)) es[f]!.i z) es[f]!.j = far ∨ 0 ≤ es[f]!.c + gx (preRows n (es.drop (f + 1)) es[f]!.i z) es[f]!.j then none
  else some (f :: greedyE es f (preRows n (es.drop (f + 1)) es[f]!.i) z es[f]!.j es[f]!.c)
def confFrom (n : Nat) (es : List Ed) (z i : Nat) : List Nat := ((List.range' i (es.length - i)).findSome? (confAt n es z)).getD []
/-- the conflict of z + 1 bounds -/
def confF (n : Nat) (es : List Ed) (z : Nat) : List Nat := confFrom n es z 0
theorem pick_step {es : List Ed} {d : List Int} {at_ : Nat} {sum : Int} {i : Nat} (h : i < es.length) : pickE es d at_ sum i = if goodE es d at_ sum i = true then some i else pickE es d at_ sum (i + 1) := by
  unfold pickE
  rw [show es.length - i = es.length - (i + 1) + 1 by omega, List.range'_succ, List.find?_cons]
  split <;> simp_all
theorem pick_end {es : List Ed} {d : List Int} {at_ : Nat} {sum : Int} {i : Nat} (h : es.length ≤ i) : pickE es d at_ sum i = none := by
  unfold pickE; rw [show es.length - i = 0 by omega]; rfl
theorem conf_step {n : Nat} {es : List Ed} {z i : Nat} (h : i < es.length) : confFrom n es z i = match confAt n es z i with
    | some c => c
    | none => confFrom n es z (i + 1) := by
  unfold confFrom
  rw [show es.length - i = es.length - (i + 1) + 1 by omega, List.range'_succ, List.findSome?_cons]
  cases confAt n es z i <;> rfl
theorem conf_end {n : Nat} {es : List Ed} {z i : Nat} (h : es.length ≤ i) : confFrom n es z i = [] := by
  unfold confFrom; rw [show es.length - i = 0 by omega]; rfl
theorem edge_at {l : List Bd} {k : Nat} (h : k < l.length) : (l.map edge)[k]! = edge l[k]! := by
  rw [getElem!_pos _ k (by simpa using h), getElem!_pos l k h, List.getElem_map]
/-- natural numbers as cells -/
def nats (l : List Nat) : List Value := ints .i64 (l.map fun (k : Nat) => (k : Int))
theorem nats_snoc {l : List Nat} {k : Nat} : nats l ++ [.int .i64 k] = nats (l ++ [k]) := by simp [nats, ints]
theorem nats_len {l : List Nat} : (nats l).length = l.length := by simp [nats, ints]
theorem goodE_at {l : List Bd} {d : List Int} {at_ : Nat} {sum : Int} {i : Nat} (h : i < l.length) : goodE (l.map edge) d at_ sum i = (decide (l[i]!.I.toNat = at_) && (decide (¬ d[l[i]!.J.toNat]! = 1152921504606846976) && decide (sum + l[i]!.C + d[l[i]!.J.toNat]! < 0))) := by
  unfold goodE
  rw [edge_at h]
  simp only [edge, gx_eq]
  rfl
/-- what is read of a table, later -/
theorem RowsOut.facts {H H3 : GHeap} {v : Value} {m n : Nat} {rows : Nat → List Int} (h : RowsOut H v m n rows) (hS : Same H H3) : ∃ i gc ids, v = .slice (some ⟨i, 0, none⟩) m gc ∧ i < H.len ∧ (∀ o, H3.rd i o = (tab m ids n)[o]?) ∧
    ∀ k, k < m → ids[k]! < H.len ∧ (tab m ids n)[k]? = some (.slice (some ⟨ids[k]!, 0, none⟩) n (n + 1)) ∧ ∀ o, H3.rd ids[k]! o = (ints .i64 (rows k))[o]? := by
  obtain ⟨i, gc, ids, rfl, h1, h2, h3, h4⟩ := h
  refine ⟨i, gc, ids, rfl, h1, fun o => ?_, fun k hk => ⟨(h4 k hk).1, tab_get hk (by omega), fun o => ?_⟩⟩
  · rw [hS.rd h1]; simp only [GHeap.rd, h2, Option.bind_some]
  · rw [hS.rd (h4 k hk).1]; simp only [GHeap.rd, (h4 k hk).2, Option.bind_some]
theorem RowsOut.same {H H3 : GHeap} {v : Value} {m n : Nat} {rows : Nat → List Int} (h : RowsOut H v m n rows) (hS : Same H H3) : RowsOut H3 v m n rows := by
  obtain ⟨i, gc, ids, rfl, h1, h2, h3, h4⟩ := h
  exact ⟨i, gc, ids, rfl, Nat.lt_of_lt_of_le h1 hS.len, by rw [hS.cs h1]; exact h2, h3, fun k hk => ⟨Nat.lt_of_lt_of_le (h4 k hk).1 hS.len, by rw [hS.cs (h4 k hk).1]; exact (h4 k hk).2⟩⟩

set_option maxHeartbeats 4000000 in
theorem conflict_ok {H : GHeap} (hw : H.wf) {v : Value} {l : List Bd} (hl : GArg1 H 6 v l.length (Bds l)) {n : Nat} (hv : Valid n l) (hn1 : 1 ≤ n) (hn : n ≤ 16) (hll : l.length ≤ 16) {z : Nat} (hz : z ≤ 15) :
    ∃ r H', gev G 30 [.int .i64 n, v, .int .i64 (z + 1 : Nat)] H = some (r, H') ∧ (GRd H' 1 r (confF n (l.map edge) z).length (nats (confF n (l.map edge) z)) ∧ Same H H') := by
  refine gev_GW (f := 30) rfl fun Post hPost => ?_
  have hlim := hw.1
  have hsl := hl.rd.isSl
  have hel : (l.map edge).length = l.length := by simp
  simp only [frameOf, Nat.reduceAdd]
  repeat' (first | refine GW_seq ?_ | refine GW_line ?_ | refine Gw_nil ?_ | refine GN_seq ?_ | refine GN_blk ?_ | refine GW_block ?_ | refine GW_skip ?_ | refine GW_exit ?_ | refine GX_seq ?_ | refine GX_blk ?_ | refine GX_up rfl ?_ | refine GX_inv ?_ | refine GW_ret ?_ | refine GN_inv ?_ | refine GN_nil ?_ | refine GW_any rfl ?_ | refine Gp_nil ?_ | ((first | refine Gw_s fun K' hK' => ?_ | refine Gp_s fun K' hK' => ?_ | refine Gw_0 fun K' hK' => ?_ | intro K' hK'); (simp (disch := (first | (simp only [ints_length, List.length_set, List.length_cons, List.length_nil, List.length_replicate, len_put, len_add, lim_put, lim_add, flatV_int, flatV_bool, flatV_str, flatV_ptr, flatV_sl, List.all_cons, List.all_nil, Bool.and_self, List.size_toArray, Nat.reduceAdd, Nat.zero_add]; done) | omega | (simp only [ints_length, List.length_set, List.length_cons, List.length_nil, List.length_replicate, len_put, len_add, lim_put, lim_add, flatV_int, flatV_bool, flatV_str, flatV_ptr, flatV_sl, List.all_cons, List.all_nil, Bool.and_self, List.size_toArray, Nat.reduceAdd, Nat.zero_add] <;> omega) | fail)) only [↓gd_move, ↓gd_pick, ↓gd_alloc, ↓gd_load, ↓gd_bin, ↓gd_un, ↓gd_fa, ↓gd_ia, ↓gd_len, ↓gd_lenOf, ↓gd_store, ↓gd_ix, ↓gd_fld, ↓gd_cap, ↓gd_ext', ↓gd_conv, ↓gd_mk, ↓gd_app, ↓gd_copy, ↓gd_next, ↓gd_fn, ↓gd_min, ↓gd_max, ↓gd_slice, ↓gd_build, ↓gd_buildSl, ↓gd_box, ↓gd_nilc', ↓gd_rng, ↓gd_appM, ↓gM_move, ↓gM_pick, ↓gM_alloc, ↓gM_load, ↓gM_bin, ↓gM_un, ↓gM_fa, ↓gM_ia, ↓gM_len, ↓gM_lenOf, ↓gM_ix, ↓gM_fld, ↓gM_cap, ↓gM_ext, ↓gM_conv, ↓gM_mk, ↓gM_fn, ↓gM_min, ↓gM_max, ↓gM_slice, ↓gM_build, ↓gM_buildSl, ↓gM_box, ↓gM_nilc, ↓gM_rng, ↓gM_appM, ↓GArg.ev, ↓evs, ↓evOpt, ↓Tr.get_set, Option.bind_some, Option.map_some, add_none, gb_lss, gb_gtr, gb_leq, gb_geq, gb_add, gb_sub, gb_mul, gb_eql', gb_neq', gu_not, gu_neg, gfold_min1, gfold_max1, wr_i64, wr_i32, wr_u8, wr_u16, wr_u32, glen_sl, glen_str, gadd_ptr, gia_sl, gmake_sq, zeros_ints, zeros_sl, gld_1, gld_n, gst_1, gst_n, gset_ok, gsetn_all, rd_put_same, rd_put_ne, rd_add_eq, rd_add_ne, rdn_put_ne, rdn_add_ne, rdn_put_all, rdn_add_all, mine_put_same, mine_put_ne, mine_add_eq, mine_add_ne, len_put, len_add, lim_put, lim_add, ints_at, ints_set, ints_length, Option.map_map, List.getElem?_toArray, List.getElem?_cons_zero, List.getElem?_cons_succ, List.length_cons, List.length_nil, List.length_set, List.size_toArray, Int.toNat_natCast, Nat.mul_one, Nat.add_zero, Nat.zero_add, ite_true, ite_false, if_true, if_false, Bool.false_eq_true, ↓reduceIte, decide_true, decide_false, Bool.not_true, Bool.not_false, blk_sl, ofs_sl, Nat.reduceEqDiff, Nat.reduceAdd, Nat.reduceMul, reduceCtorEq, Int.reduceToNat, ↓evParts, fillL_1, fillL_0, List.replicate_zero, ints_nil, g30, hsl.len]; refine G1_go (hK' _ _ ?_); clear hK' K')) | ((first | refine Gw_dt fun A B C D hA hB hC hD => ?_ | refine Gw_df fun A B C D hA hB hC hD => ?_ | refine GW_cd fun A B C D hA hB hC hD => ?_); (simp only [↓Tr.get_set, Nat.reduceEqDiff, if_true, if_false, ↓reduceIte, g30, hsl.len]; first | (refine Gd_true (hA ?_); clear hA hB hC hD A B C D) | (refine Gd_false (hB ?_); clear hA hB hC hD A B C D) | (refine Gd_some (fun hc => hC ?_) (fun hc => hD ?_) <;> clear hA hB hC hD A B C D <;> (try simp only [decide_eq_true_eq, decide_eq_false_iff_not, Bool.not_eq_true', Bool.not_eq_false', Int.not_lt, Int.not_le, Bool.not_true, Bool.not_false, Bool.true_eq_false, Bool.false_eq_true, Decidable.not_not] at hc)))) | (refine GR.mk ?_; simp only [gresults, ↓Tr.get_set, Option.bind_some, Nat.reduceEqDiff, if_true, if_false, ↓reduceIte, gld_1, gld_n, g30, hsl.len]; refine ⟨_, rfl, ?_⟩; simp only [gone]))
  refine GW_loop (fun k fr H1 => ∃ (f : Nat), f ≤ l.length ∧ k = l.length - f ∧ fr.get 0 = some (.int .i64 n) ∧ fr.get 1 = some (v) ∧ fr.get 2 = some (.int .i64 (z + 1 : Nat)) ∧ fr.get 16 = some (v) ∧ fr.get 17 = some (.int .i64 l.length) ∧ fr.get 18 = some (.int .i64 f) ∧ Same H H1 ∧ confF n (l.map edge) z = confFrom n (l.map edge) z f) ?_ l.length ?_
  case refine_2 =>
    refine ⟨0, by omega, by omega, ?_⟩
    simp only [↓Tr.get_set, Nat.reduceEqDiff, if_true, if_false, ↓reduceIte, Int.natCast_add, Int.cast_ofNat_Int, Int.natCast_zero, true_and, and_true, Option.some.injEq, Value.int.injEq]
    exact ⟨Same.refl hw, rfl⟩
  rintro k fr H1 ⟨f, hf, rfl, f0, f1, f2, f16, f17, f18, hS1, hcf⟩ J hJ
  have hwl := hS1.wf.1
  have hbd : ∀ k : Nat, k < l.length → H1.rdn (blk v) (ofs v + k * 6) 6 = some (bdv l[k]!) := fun k hk => by
    rw [hS1.rdn (hl.rd.lt (by omega))]; exact hl.rd.bd hk
  repeat' (first | refine GW_seq ?_ | refine GW_line ?_ | refine Gw_nil ?_ | refine GN_seq ?_ | refine GN_blk ?_ | refine GW_block ?_ | refine GW_skip ?_ | refine GW_exit ?_ | refine GX_seq ?_ | refine GX_blk ?_ | refine GX_up rfl ?_ | refine GX_inv ?_ | refine GW_ret ?_ | refine GN_inv ?_ | refine GN_nil ?_ | refine GW_any rfl ?_ | refine Gp_nil ?_ | ((first | refine Gw_s fun K' hK' => ?_ | refine Gp_s fun K' hK' => ?_ | refine Gw_0 fun K' hK' => ?_ | intro K' hK'); (simp (disch := (first | (simp only [ints_length, List.length_set, List.length_cons, List.length_nil, List.length_replicate, len_put, len_add, lim_put, lim_add, flatV_int, flatV_bool, flatV_str, flatV_ptr, flatV_sl, List.all_cons, List.all_nil, Bool.and_self, List.size_toArray, Nat.reduceAdd, Nat.zero_add]; done) | omega | (simp only [ints_length, List.length_set, List.length_cons, List.length_nil, List.length_replicate, len_put, len_add, lim_put, lim_add, flatV_int, flatV_bool, flatV_str, flatV_ptr, flatV_sl, List.all_cons, List.all_nil, Bool.and_self, List.size_toArray, Nat.reduceAdd, Nat.zero_add] <;> omega) | fail)) only [↓gd_move, ↓gd_pick, ↓gd_alloc, ↓gd_load, ↓gd_bin, ↓gd_un, ↓gd_fa, ↓gd_ia, ↓gd_len, ↓gd_lenOf, ↓gd_store, ↓gd_ix, ↓gd_fld, ↓gd_cap, ↓gd_ext', ↓gd_conv, ↓gd_mk, ↓gd_app, ↓gd_copy, ↓gd_next, ↓gd_fn, ↓gd_min, ↓gd_max, ↓gd_slice, ↓gd_build, ↓gd_buildSl, ↓gd_box, ↓gd_nilc', ↓gd_rng, ↓gd_appM, ↓gM_move, ↓gM_pick, ↓gM_alloc, ↓gM_load, ↓gM_bin, ↓gM_un, ↓gM_fa, ↓gM_ia, ↓gM_len, ↓gM_lenOf, ↓gM_ix, ↓gM_fld, ↓gM_cap, ↓gM_ext, ↓gM_conv, ↓gM_mk, ↓gM_fn, ↓gM_min, ↓gM_max, ↓gM_slice, ↓gM_build, ↓gM_buildSl, ↓gM_box, ↓gM_nilc, ↓gM_rng, ↓gM_appM, ↓GArg.ev, ↓evs, ↓evOpt, ↓Tr.get_set, Option.bind_some, Option.map_some, add_none, gb_lss, gb_gtr, gb_leq, gb_geq, gb_add, gb_sub, gb_mul, gb_eql', gb_neq', gu_not, gu_neg, gfold_min1, gfold_max1, wr_i64, wr_i32, wr_u8, wr_u16, wr_u32, glen_sl, glen_str, gadd_ptr, gia_sl, gmake_sq, zeros_ints, zeros_sl, gld_1, gld_n, gst_1, gst_n, gset_ok, gsetn_all, rd_put_same, rd_put_ne, rd_add_eq, rd_add_ne, rdn_put_ne, rdn_add_ne, rdn_put_all, rdn_add_all, mine_put_same, mine_put_ne, mine_add_eq, mine_add_ne, len_put, len_add, lim_put, lim_add, ints_at, ints_set, ints_length, Option.map_map, List.getElem?_toArray, List.getElem?_cons_zero, List.getElem?_cons_succ, List.length_cons, List.length_nil, List.length_set, List.size_toArray, Int.toNat_natCast, Nat.mul_one, Nat.add_zero, Nat.zero_add, ite_true, ite_false, if_true, if_false, Bool.false_eq_true, ↓reduceIte, decide_true, decide_false, Bool.not_true, Bool.not_false, blk_sl, ofs_sl, Nat.reduceEqDiff, Nat.reduceAdd, Nat.reduceMul, reduceCtorEq, Int.reduceToNat, ↓evParts, fillL_1, fillL_0, List.replicate_zero, ints_nil, g30, f0, f1, f2, f16, f17, f18, hsl.len, hsl.ia, hbd, bdv]; refine G1_go (hK' _ _ ?_); clear hK' K')) | ((first | refine Gw_dt fun A B C D hA hB hC hD => ?_ | refine Gw_df fun A B C D hA hB hC hD => ?_ | refine GW_cd fun A B C D hA hB hC hD => ?_); (simp only [↓Tr.get_set, Nat.reduceEqDiff, if_true, if_false, ↓reduceIte, g30, f0, f1, f2, f16, f17, f18, hsl.len, hsl.ia, hbd, bdv]; first | (refine Gd_true (hA ?_); clear hA hB hC hD A B C D) | (refine Gd_false (hB ?_); clear hA hB hC hD A B C D) | (refine Gd_some (fun hc => hC ?_) (fun hc => hD ?_) <;> clear hA hB hC hD A B C D <;> (try simp only [decide_eq_true_eq, decide_eq_false_iff_not, Bool.not_eq_true', Bool.not_eq_false', Int.not_lt, Int.not_le, Bool.not_true, Bool.not_false, Bool.true_eq_false, Bool.false_eq_true, Decidable.not_not] at hc)))) | (refine GR.mk ?_; simp only [gresults, ↓Tr.get_set, Option.bind_some, Nat.reduceEqDiff, if_true, if_false, ↓reduceIte, gld_1, gld_n, g30, f0, f1, f2, f16, f17, f18, hsl.len, hsl.ia, hbd, bdv]; refine ⟨_, rfl, ?_⟩; simp only [gone]))
  case refine_1.refine_2 =>
    refine hPost _ _ ⟨?_, hS1⟩
    rw [hcf, conf_end (by omega)]
    exact ⟨by rw [nats_len]; simp, none, 0, rfl, fun h => absurd h (by simp)⟩
  case refine_1.refine_1 =>
  have hfl : f < l.length := by omega
  have hvb : 0 ≤ l[f]!.I ∧ l[f]!.I < n ∧ 0 ≤ l[f]!.J ∧ l[f]!.J < n ∧ -1099511627776 ≤ l[f]!.C ∧ l[f]!.C ≤ 1099511627776 := by
    rw [getElem!_pos l f hfl]; exact hv _ (List.getElem_mem hfl)
  have hS1' := hS1.new (.cells [.int .i64 0, .int .i64 0, .int .i64 0, .int .u8 0, .int .i64 0, .int .i64 0] 0 true) (.cells (bcells l[f]!) 0 true)
  have hcs1 := cs_new (H := H1) (.cells [.int .i64 0, .int .i64 0, .int .i64 0, .int .u8 0, .int .i64 0, .int .i64 0] 0 true) (bcells l[f]!) 0 true
  have hlt1 : H1.len < ((H1.add (some (.cells [.int .i64 0, .int .i64 0, .int .i64 0, .int .u8 0, .int .i64 0, .int .i64 0] 0 true))).put H1.len (.cells (bcells l[f]!) 0 true)).len := Nat.lt_succ_self _
  have hrest := rests_ok hS1'.wf (hl.same hw hS1') hv hn1 hn hll hfl (s := z + 1) (by omega) (by omega) (dst := l[f]!.I.toNat) (by omega)
  rw [show ((l[f]!.I.toNat : Nat) : Int) = l[f]!.I by omega] at hrest
  refine Gw_s fun K' hK' => G1_call (by simp only [gtarget, ↓GArg.ev, ↓evs, ↓Tr.get_set, Nat.reduceEqDiff, if_true, if_false, ↓reduceIte, Option.map_some, f0, f1, f2, f16, f17, f18]; rfl) (hrest) fun r' H' hq => hK' _ _ ?_
  clear hrest
  obtain ⟨hrows, hS2⟩ := hq
  have hloc : ∀ o, H'.rd H1.len o = (bcells l[f]!)[o]? := fun o => by
    rw [hS2.rd hlt1]; simp only [GHeap.rd, hcs1, Option.bind_some]
  have hlenH := hS2.len
  clear hcs1 hbd
  have hSH := hS1'.trans hS2
  have hdrop : (l.map edge).drop (f + 1) = (l.drop (f + 1)).map edge := (List.map_drop ..).symm
  have hIe : (l.map edge)[f]!.i = l[f]!.I.toNat := by rw [edge_at hfl]; rfl
  have hJe : (l.map edge)[f]!.j = l[f]!.J.toNat := by rw [edge_at hfl]; rfl
  have hCe : (l.map edge)[f]!.c = l[f]!.C := by rw [edge_at hfl]; rfl
  have hcA : confAt n (l.map edge) z f = if gx (preRows n ((l.drop (f + 1)).map edge) l[f]!.I.toNat z) l[f]!.J.toNat = far ∨ 0 ≤ l[f]!.C + gx (preRows n ((l.drop (f + 1)).map edge) l[f]!.I.toNat z) l[f]!.J.toNat then none
      else some (f :: greedyE (l.map edge) f (preRows n ((l.drop (f + 1)).map edge) l[f]!.I.toNat) z l[f]!.J.toNat l[f]!.C) := by
    unfold confAt; rw [hdrop, hIe, hJe, hCe]
  have hV2 : Valid n (l.drop (f + 1)) := hv.sub fun b hb => List.mem_of_mem_drop hb
  have hsm := preRows_sml n ((l.drop (f + 1)).map edge) l[f]!.I.toNat hV2.csm
  have hrl := preRows_len n ((l.drop (f + 1)).map edge) l[f]!.I.toNat
  generalize preRows n ((l.drop (f + 1)).map edge) l[f]!.I.toNat = rows at *
  obtain ⟨ih, gch, ids, rfl, hih, hro, hidf⟩ := hrows.facts (Same.refl hS2.wf)
  obtain ⟨hz1, hz2, hz3⟩ := hidf z (by omega)
  have htn : (((z + 1 : Nat) : Int) - 1).toNat = z := by omega
  have hlim2 := hS2.wf.1
  have hsz := sml_at (hsm z) (by omega) l[f]!.J.toNat
  have hrz := hrl z
  rw [gx_eq] at hcA
  repeat' (first | refine GW_seq ?_ | refine GW_line ?_ | refine Gw_nil ?_ | refine GN_seq ?_ | refine GN_blk ?_ | refine GW_block ?_ | refine GW_skip ?_ | refine GW_exit ?_ | refine GX_seq ?_ | refine GX_blk ?_ | refine GX_up rfl ?_ | refine GX_inv ?_ | refine GW_ret ?_ | refine GN_inv ?_ | refine GN_nil ?_ | refine GW_any rfl ?_ | refine Gp_nil ?_ | ((first | refine Gw_s fun K' hK' => ?_ | refine Gp_s fun K' hK' => ?_ | refine Gw_0 fun K' hK' => ?_ | intro K' hK'); (simp (disch := (first | (simp only [ints_length, List.length_set, List.length_cons, List.length_nil, List.length_replicate, len_put, len_add, lim_put, lim_add, flatV_int, flatV_bool, flatV_str, flatV_ptr, flatV_sl, List.all_cons, List.all_nil, Bool.and_self, List.size_toArray, Nat.reduceAdd, Nat.zero_add]; done) | omega | (simp only [ints_length, List.length_set, List.length_cons, List.length_nil, List.length_replicate, len_put, len_add, lim_put, lim_add, flatV_int, flatV_bool, flatV_str, flatV_ptr, flatV_sl, List.all_cons, List.all_nil, Bool.and_self, List.size_toArray, Nat.reduceAdd, Nat.zero_add] <;> omega) | fail)) only [↓gd_move, ↓gd_pick, ↓gd_alloc, ↓gd_load, ↓gd_bin, ↓gd_un, ↓gd_fa, ↓gd_ia, ↓gd_len, ↓gd_lenOf, ↓gd_store, ↓gd_ix, ↓gd_fld, ↓gd_cap, ↓gd_ext', ↓gd_conv, ↓gd_mk, ↓gd_app, ↓gd_copy, ↓gd_next, ↓gd_fn, ↓gd_min, ↓gd_max, ↓gd_slice, ↓gd_build, ↓gd_buildSl, ↓gd_box, ↓gd_nilc', ↓gd_rng, ↓gd_appM, ↓gM_move, ↓gM_pick, ↓gM_alloc, ↓gM_load, ↓gM_bin, ↓gM_un, ↓gM_fa, ↓gM_ia, ↓gM_len, ↓gM_lenOf, ↓gM_ix, ↓gM_fld, ↓gM_cap, ↓gM_ext, ↓gM_conv, ↓gM_mk, ↓gM_fn, ↓gM_min, ↓gM_max, ↓gM_slice, ↓gM_build, ↓gM_buildSl, ↓gM_box, ↓gM_nilc, ↓gM_rng, ↓gM_appM, ↓GArg.ev, ↓evs, ↓evOpt, ↓Tr.get_set, Option.bind_some, Option.map_some, add_none, gb_lss, gb_gtr, gb_leq, gb_geq, gb_add, gb_sub, gb_mul, gb_eql', gb_neq', gu_not, gu_neg, gfold_min1, gfold_max1, wr_i64, wr_i32, wr_u8, wr_u16, wr_u32, glen_sl, glen_str, gadd_ptr, gia_sl, gmake_sq, zeros_ints, zeros_sl, gld_1, gld_n, gst_1, gst_n, gset_ok, gsetn_all, rd_put_same, rd_put_ne, rd_add_eq, rd_add_ne, rdn_put_ne, rdn_add_ne, rdn_put_all, rdn_add_all, mine_put_same, mine_put_ne, mine_add_eq, mine_add_ne, len_put, len_add, lim_put, lim_add, ints_at, ints_set, ints_length, Option.map_map, List.getElem?_toArray, List.getElem?_cons_zero, List.getElem?_cons_succ, List.length_cons, List.length_nil, List.length_set, List.size_toArray, Int.toNat_natCast, Nat.mul_one, Nat.add_zero, Nat.zero_add, ite_true, ite_false, if_true, if_false, Bool.false_eq_true, ↓reduceIte, decide_true, decide_false, Bool.not_true, Bool.not_false, blk_sl, ofs_sl, Nat.reduceEqDiff, Nat.reduceAdd, Nat.reduceMul, reduceCtorEq, Int.reduceToNat, ↓evParts, fillL_1, fillL_0, List.replicate_zero, ints_nil, g30, f0, f1, f2, f16, f17, f18, hloc, hro, hz2, hz3, htn, bcells]; refine G1_go (hK' _ _ ?_); clear hK' K')) | ((first | refine Gw_dt fun A B C D hA hB hC hD => ?_ | refine Gw_df fun A B C D hA hB hC hD => ?_ | refine GW_cd fun A B C D hA hB hC hD => ?_); (simp only [↓Tr.get_set, Nat.reduceEqDiff, if_true, if_false, ↓reduceIte, g30, f0, f1, f2, f16, f17, f18, hloc, hro, hz2, hz3, htn, bcells]; first | (refine Gd_true (hA ?_); clear hA hB hC hD A B C D) | (refine Gd_false (hB ?_); clear hA hB hC hD A B C D) | (refine Gd_some (fun hc => hC ?_) (fun hc => hD ?_) <;> clear hA hB hC hD A B C D <;> (try simp only [decide_eq_true_eq, decide_eq_false_iff_not, Bool.not_eq_true', Bool.not_eq_false', Int.not_lt, Int.not_le, Bool.not_true, Bool.not_false, Bool.true_eq_false, Bool.false_eq_true, Decidable.not_not] at hc)))) | (refine GR.mk ?_; simp only [gresults, ↓Tr.get_set, Option.bind_some, Nat.reduceEqDiff, if_true, if_false, ↓reduceIte, gld_1, gld_n, g30, f0, f1, f2, f16, f17, f18, hloc, hro, hz2, hz3, htn, bcells]; refine ⟨_, rfl, ?_⟩; simp only [gone]))
  case refine_1 h0 =>
    refine hJ _ _ ⟨l.length - (f + 1), by omega, f + 1, by omega, rfl, ?_⟩
    simp only [↓Tr.get_set, Nat.reduceEqDiff, if_true, if_false, ↓reduceIte, Int.natCast_add, Int.cast_ofNat_Int, Int.natCast_zero, true_and, and_true, Option.some.injEq, Value.int.injEq, f0, f1, f2, f16, f17]
    exact ⟨hSH, by rw [hcf, conf_step (by rw [hel]; exact hfl), hcA, if_pos (.inl hc)]⟩
  case refine_2.refine_1 h0 h1 =>
    refine hJ _ _ ⟨l.length - (f + 1), by omega, f + 1, by omega, rfl, ?_⟩
    simp only [↓Tr.get_set, Nat.reduceEqDiff, if_true, if_false, ↓reduceIte, Int.natCast_add, Int.cast_ofNat_Int, Int.natCast_zero, true_and, and_true, Option.some.injEq, Value.int.injEq, f0, f1, f2, f16, f17]
    exact ⟨hSH, by rw [hcf, conf_step (by rw [hel]; exact hfl), hcA, if_pos (.inr hc)]⟩
  case refine_2.refine_2 h0 h1 =>
  have hcf2 : confF n (l.map edge) z = [f] ++ greedyE (l.map edge) f rows z l[f]!.J.toNat l[f]!.C := by
    rw [hcf, conf_step (by rw [hel]; exact hfl), hcA, if_neg (by rintro (h | h); · exact h1 h
                                                                 · omega)]; rfl
  refine GW_loop (fun k fr H1 => ∃ (r : Nat) (outs : List Nat) (at_ : Nat) (sum : Int) (vo : Value), r ≤ z ∧ k = r ∧ fr.get 1 = some (v) ∧ fr.get 7 = some (.int .i64 f) ∧ fr.get 9 = some (.slice (some ⟨ih, 0, none⟩) (z + 1) gch) ∧ fr.get 10 = some (vo) ∧ fr.get 11 = some (.int .i64 at_) ∧ fr.get 12 = some (.int .i64 sum) ∧ fr.get 13 = some (.int .i64 ((r : Int) - 1)) ∧
    Same H' H1 ∧ OwnG H1 vo 1 1 outs.length (nats outs) ∧ H'.len ≤ blk vo ∧ outs.length + r ≤ 16 ∧ sum ≤ outs.length * 1099511627776 ∧ -(outs.length * 1099511627776) ≤ sum ∧
    confF n (l.map edge) z = outs ++ greedyE (l.map edge) f rows r at_ sum) ?_ z ?_
  case refine_2 =>
    refine ⟨z, [f], l[f]!.J.toNat, l[f]!.C, .slice (some ⟨H'.len, 0, none⟩) 1 2, by omega, rfl, ?_⟩
    simp only [↓Tr.get_set, Nat.reduceEqDiff, if_true, if_false, ↓reduceIte, Int.natCast_add, Int.cast_ofNat_Int, Int.natCast_zero, true_and, and_true, Option.some.injEq, Value.int.injEq, f1]
    refine ⟨by omega, by omega, (Same.refl hS2.wf).add _, ⟨rfl, .inr ⟨_, _, rfl, .inr rfl, mine_add_eq rfl hlim2⟩⟩, Nat.le_refl _, by simp only [List.length_cons, List.length_nil]; omega, by simp only [List.length_cons, List.length_nil]; omega, by simp only [List.length_cons, List.length_nil]; omega, hcf2⟩
  clear hcf2 hcA hcf hsz hloc
  rintro k fr H3 ⟨r, outs, at_, sum, vo, hr, hkr, f1, f7, f9, f10, f11, f12, f13, hS3, hO3, hvo, hlr, hsu1, hsu2, hcf⟩ J2 hJ2
  obtain rfl : r = k := hkr.symm
  have hwl3 := hS3.wf.1
  repeat' (first | refine GW_seq ?_ | refine GW_line ?_ | refine Gw_nil ?_ | refine GN_seq ?_ | refine GN_blk ?_ | refine GW_block ?_ | refine GW_skip ?_ | refine GW_exit ?_ | refine GX_seq ?_ | refine GX_blk ?_ | refine GX_up rfl ?_ | refine GX_inv ?_ | refine GW_ret ?_ | refine GN_inv ?_ | refine GN_nil ?_ | refine GW_any rfl ?_ | refine Gp_nil ?_ | ((first | refine Gw_s fun K' hK' => ?_ | refine Gp_s fun K' hK' => ?_ | refine Gw_0 fun K' hK' => ?_ | intro K' hK'); (simp (disch := (first | (simp only [ints_length, List.length_set, List.length_cons, List.length_nil, List.length_replicate, len_put, len_add, lim_put, lim_add, flatV_int, flatV_bool, flatV_str, flatV_ptr, flatV_sl, List.all_cons, List.all_nil, Bool.and_self, List.size_toArray, Nat.reduceAdd, Nat.zero_add]; done) | omega | (simp only [ints_length, List.length_set, List.length_cons, List.length_nil, List.length_replicate, len_put, len_add, lim_put, lim_add, flatV_int, flatV_bool, flatV_str, flatV_ptr, flatV_sl, List.all_cons, List.all_nil, Bool.and_self, List.size_toArray, Nat.reduceAdd, Nat.zero_add] <;> omega) | fail)) only [↓gd_move, ↓gd_pick, ↓gd_alloc, ↓gd_load, ↓gd_bin, ↓gd_un, ↓gd_fa, ↓gd_ia, ↓gd_len, ↓gd_lenOf, ↓gd_store, ↓gd_ix, ↓gd_fld, ↓gd_cap, ↓gd_ext', ↓gd_conv, ↓gd_mk, ↓gd_app, ↓gd_copy, ↓gd_next, ↓gd_fn, ↓gd_min, ↓gd_max, ↓gd_slice, ↓gd_build, ↓gd_buildSl, ↓gd_box, ↓gd_nilc', ↓gd_rng, ↓gd_appM, ↓gM_move, ↓gM_pick, ↓gM_alloc, ↓gM_load, ↓gM_bin, ↓gM_un, ↓gM_fa, ↓gM_ia, ↓gM_len, ↓gM_lenOf, ↓gM_ix, ↓gM_fld, ↓gM_cap, ↓gM_ext, ↓gM_conv, ↓gM_mk, ↓gM_fn, ↓gM_min, ↓gM_max, ↓gM_slice, ↓gM_build, ↓gM_buildSl, ↓gM_box, ↓gM_nilc, ↓gM_rng, ↓gM_appM, ↓GArg.ev, ↓evs, ↓evOpt, ↓Tr.get_set, Option.bind_some, Option.map_some, add_none, gb_lss, gb_gtr, gb_leq, gb_geq, gb_add, gb_sub, gb_mul, gb_eql', gb_neq', gu_not, gu_neg, gfold_min1, gfold_max1, wr_i64, wr_i32, wr_u8, wr_u16, wr_u32, glen_sl, glen_str, gadd_ptr, gia_sl, gmake_sq, zeros_ints, zeros_sl, gld_1, gld_n, gst_1, gst_n, gset_ok, gsetn_all, rd_put_same, rd_put_ne, rd_add_eq, rd_add_ne, rdn_put_ne, rdn_add_ne, rdn_put_all, rdn_add_all, mine_put_same, mine_put_ne, mine_add_eq, mine_add_ne, len_put, len_add, lim_put, lim_add, ints_at, ints_set, ints_length, Option.map_map, List.getElem?_toArray, List.getElem?_cons_zero, List.getElem?_cons_succ, List.length_cons, List.length_nil, List.length_set, List.size_toArray, Int.toNat_natCast, Nat.mul_one, Nat.add_zero, Nat.zero_add, ite_true, ite_false, if_true, if_false, Bool.false_eq_true, ↓reduceIte, decide_true, decide_false, Bool.not_true, Bool.not_false, blk_sl, ofs_sl, Nat.reduceEqDiff, Nat.reduceAdd, Nat.reduceMul, reduceCtorEq, Int.reduceToNat, ↓evParts, fillL_1, fillL_0, List.replicate_zero, ints_nil, g30, f1, f7, f9, f10, f11, f12, f13]; refine G1_go (hK' _ _ ?_); clear hK' K')) | ((first | refine Gw_dt fun A B C D hA hB hC hD => ?_ | refine Gw_df fun A B C D hA hB hC hD => ?_ | refine GW_cd fun A B C D hA hB hC hD => ?_); (simp only [↓Tr.get_set, Nat.reduceEqDiff, if_true, if_false, ↓reduceIte, g30, f1, f7, f9, f10, f11, f12, f13]; first | (refine Gd_true (hA ?_); clear hA hB hC hD A B C D) | (refine Gd_false (hB ?_); clear hA hB hC hD A B C D) | (refine Gd_some (fun hc => hC ?_) (fun hc => hD ?_) <;> clear hA hB hC hD A B C D <;> (try simp only [decide_eq_true_eq, decide_eq_false_iff_not, Bool.not_eq_true', Bool.not_eq_false', Int.not_lt, Int.not_le, Bool.not_true, Bool.not_false, Bool.true_eq_false, Bool.false_eq_true, Decidable.not_not] at hc)))) | (refine GR.mk ?_; simp only [gresults, ↓Tr.get_set, Option.bind_some, Nat.reduceEqDiff, if_true, if_false, ↓reduceIte, gld_1, gld_n, g30, f1, f7, f9, f10, f11, f12, f13]; refine ⟨_, rfl, ?_⟩; simp only [gone]))
  case refine_1.refine_2 h2 =>
    obtain rfl : r = 0 := by omega
    refine hPost _ _ ⟨?_, hSH.trans hS3⟩
    rw [hcf]
    simp only [greedyE, List.append_nil]
    exact hO3.rd hS3.wf
  case refine_1.refine_1 h2 =>
  obtain ⟨q, rfl⟩ : ∃ q, r = q + 1 := ⟨r - 1, by omega⟩
  have htnq : (((q + 1 : Nat) : Int) - 1).toNat = q := by omega
  refine GW_loop (fun k fr H1 => ∃ (i : Nat), f + 1 ≤ i ∧ i ≤ l.length ∧ k = l.length - i ∧ fr.get 1 = some (v) ∧ fr.get 7 = some (.int .i64 f) ∧ fr.get 9 = some (.slice (some ⟨ih, 0, none⟩) (z + 1) gch) ∧ fr.get 10 = some (vo) ∧ fr.get 11 = some (.int .i64 at_) ∧ fr.get 12 = some (.int .i64 sum) ∧ fr.get 13 = some (.int .i64 ((q + 1 : Nat) - 1 : Int)) ∧ fr.get 14 = some (.int .i64 i) ∧
    Same H' H1 ∧ OwnG H1 vo 1 1 outs.length (nats outs) ∧ pickE (l.map edge) (rows q) at_ sum (f + 1) = pickE (l.map edge) (rows q) at_ sum i) ?_ (l.length - (f + 1)) ?_
  case refine_2 =>
    refine ⟨f + 1, Nat.le_refl _, by omega, rfl, ?_⟩
    simp only [↓Tr.get_set, Nat.reduceEqDiff, if_true, if_false, ↓reduceIte, Int.natCast_add, Int.cast_ofNat_Int, Int.natCast_zero, true_and, and_true, Option.some.injEq, Value.int.injEq, f1, f7, f9, f10, f11, f12, f13]
    exact ⟨hS3, hO3⟩
  clear hS3 hO3 hwl3 f1 f7 f9 f10 f11 f12 f13
  rintro k fr H3 ⟨i, hi0, hi, rfl, f1, f7, f9, f10, f11, f12, f13, f14, hS3, hO3, hpk⟩ J3 hJ3
  have hwl3 := hS3.wf.1
  have hll3 := hS3.len
  obtain ⟨hq1, hq2, hq3⟩ := hidf q (by omega)
  have hro3 : ∀ o, H3.rd ih o = (tab (z + 1) ids n)[o]? := fun o => by rw [hS3.rd hih, hro]
  have hrq3 : ∀ o, H3.rd ids[q]! o = (ints .i64 (rows q))[o]? := fun o => by rw [hS3.rd hq1, hq3]
  have hbd : ∀ k : Nat, k < l.length → H3.rdn (blk v) (ofs v + k * 6) 6 = some (bdv l[k]!) := fun k hk => by
    rw [(hSH.trans hS3).rdn (hl.rd.lt (by omega))]; exact hl.rd.bd hk
  have hbl := hl.rd.lt
  have hvi : i < l.length → 0 ≤ l[i]!.I ∧ l[i]!.I < n ∧ 0 ≤ l[i]!.J ∧ l[i]!.J < n ∧ -1099511627776 ≤ l[i]!.C ∧ l[i]!.C ≤ 1099511627776 := fun h => by
    rw [getElem!_pos l i h]; exact hv _ (List.getElem_mem h)
  have hsq := fun h : i < l.length => sml_at (hsm q) (by omega) l[i]!.J.toNat
  have hrlq := hrl q
  have hgood := fun h : i < l.length => goodE_at (d := rows q) (at_ := at_) (sum := sum) h
  have hOloc := fun (o o' : GObj) => (⟨hO3.len, hO3.at_.imp id fun ⟨j, gc, e, hg, hm⟩ => ⟨j, gc, e, hg, by
    rw [mine_put_ne (by have := mine_lt hS3.wf hm; omega), mine_add_ne (by have := mine_lt hS3.wf hm; omega)]; exact hm⟩⟩ : OwnG ((H3.add (some o)).put H3.len o') vo 1 1 outs.length (nats outs))
  repeat' (first | refine GW_seq ?_ | refine GW_line ?_ | refine Gw_nil ?_ | refine GN_seq ?_ | refine GN_blk ?_ | refine GW_block ?_ | refine GW_skip ?_ | refine GW_exit ?_ | refine GX_seq ?_ | refine GX_blk ?_ | refine GX_up rfl ?_ | refine GX_inv ?_ | refine GW_ret ?_ | refine GN_inv ?_ | refine GN_nil ?_ | refine GW_any rfl ?_ | refine Gp_nil ?_ | ((first | refine Gw_s fun K' hK' => ?_ | refine Gp_s fun K' hK' => ?_ | refine Gw_0 fun K' hK' => ?_ | intro K' hK'); (simp (disch := (first | (simp only [ints_length, List.length_set, List.length_cons, List.length_nil, List.length_replicate, len_put, len_add, lim_put, lim_add, flatV_int, flatV_bool, flatV_str, flatV_ptr, flatV_sl, List.all_cons, List.all_nil, Bool.and_self, List.size_toArray, Nat.reduceAdd, Nat.zero_add]; done) | omega | (simp only [ints_length, List.length_set, List.length_cons, List.length_nil, List.length_replicate, len_put, len_add, lim_put, lim_add, flatV_int, flatV_bool, flatV_str, flatV_ptr, flatV_sl, List.all_cons, List.all_nil, Bool.and_self, List.size_toArray, Nat.reduceAdd, Nat.zero_add] <;> omega) | fail)) only [↓gd_move, ↓gd_pick, ↓gd_alloc, ↓gd_load, ↓gd_bin, ↓gd_un, ↓gd_fa, ↓gd_ia, ↓gd_len, ↓gd_lenOf, ↓gd_store, ↓gd_ix, ↓gd_fld, ↓gd_cap, ↓gd_ext', ↓gd_conv, ↓gd_mk, ↓gd_app, ↓gd_copy, ↓gd_next, ↓gd_fn, ↓gd_min, ↓gd_max, ↓gd_slice, ↓gd_build, ↓gd_buildSl, ↓gd_box, ↓gd_nilc', ↓gd_rng, ↓gd_appM, ↓gM_move, ↓gM_pick, ↓gM_alloc, ↓gM_load, ↓gM_bin, ↓gM_un, ↓gM_fa, ↓gM_ia, ↓gM_len, ↓gM_lenOf, ↓gM_ix, ↓gM_fld, ↓gM_cap, ↓gM_ext, ↓gM_conv, ↓gM_mk, ↓gM_fn, ↓gM_min, ↓gM_max, ↓gM_slice, ↓gM_build, ↓gM_buildSl, ↓gM_box, ↓gM_nilc, ↓gM_rng, ↓gM_appM, ↓GArg.ev, ↓evs, ↓evOpt, ↓Tr.get_set, Option.bind_some, Option.map_some, add_none, gb_lss, gb_gtr, gb_leq, gb_geq, gb_add, gb_sub, gb_mul, gb_eql', gb_neq', gu_not, gu_neg, gfold_min1, gfold_max1, wr_i64, wr_i32, wr_u8, wr_u16, wr_u32, glen_sl, glen_str, gadd_ptr, gia_sl, gmake_sq, zeros_ints, zeros_sl, gld_1, gld_n, gst_1, gst_n, gset_ok, gsetn_all, rd_put_same, rd_put_ne, rd_add_eq, rd_add_ne, rdn_put_ne, rdn_add_ne, rdn_put_all, rdn_add_all, mine_put_same, mine_put_ne, mine_add_eq, mine_add_ne, len_put, len_add, lim_put, lim_add, ints_at, ints_set, ints_length, Option.map_map, List.getElem?_toArray, List.getElem?_cons_zero, List.getElem?_cons_succ, List.length_cons, List.length_nil, List.length_set, List.size_toArray, Int.toNat_natCast, Nat.mul_one, Nat.add_zero, Nat.zero_add, ite_true, ite_false, if_true, if_false, Bool.false_eq_true, ↓reduceIte, decide_true, decide_false, Bool.not_true, Bool.not_false, blk_sl, ofs_sl, Nat.reduceEqDiff, Nat.reduceAdd, Nat.reduceMul, reduceCtorEq, Int.reduceToNat, ↓evParts, fillL_1, fillL_0, List.replicate_zero, ints_nil, g30, f1, f7, f9, f10, f11, f12, f13, f14, hsl.len, hsl.ia, hbd, bdv, hro3, hrq3, hq2, htnq]; refine G1_go (hK' _ _ ?_); clear hK' K')) | ((first | refine Gw_dt fun A B C D hA hB hC hD => ?_ | refine Gw_df fun A B C D hA hB hC hD => ?_ | refine GW_cd fun A B C D hA hB hC hD => ?_); (simp only [↓Tr.get_set, Nat.reduceEqDiff, if_true, if_false, ↓reduceIte, g30, f1, f7, f9, f10, f11, f12, f13, f14, hsl.len, hsl.ia, hbd, bdv, hro3, hrq3, hq2, htnq]; first | (refine Gd_true (hA ?_); clear hA hB hC hD A B C D) | (refine Gd_false (hB ?_); clear hA hB hC hD A B C D) | (refine Gd_some (fun hc => hC ?_) (fun hc => hD ?_) <;> clear hA hB hC hD A B C D <;> (try simp only [decide_eq_true_eq, decide_eq_false_iff_not, Bool.not_eq_true', Bool.not_eq_false', Int.not_lt, Int.not_le, Bool.not_true, Bool.not_false, Bool.true_eq_false, Bool.false_eq_true, Decidable.not_not] at hc)))) | (refine GR.mk ?_; simp only [gresults, ↓Tr.get_set, Option.bind_some, Nat.reduceEqDiff, if_true, if_false, ↓reduceIte, gld_1, gld_n, g30, f1, f7, f9, f10, f11, f12, f13, f14, hsl.len, hsl.ia, hbd, bdv, hro3, hrq3, hq2, htnq]; refine ⟨_, rfl, ?_⟩; simp only [gone]))
  case refine_1.refine_1.refine_1.refine_1.refine_2 h2 h3 h4 h5 =>
    refine hJ3 _ _ ⟨l.length - (i + 1), by omega, i + 1, by omega, by omega, rfl, ?_⟩
    simp only [↓Tr.get_set, Nat.reduceEqDiff, if_true, if_false, ↓reduceIte, Int.natCast_add, Int.cast_ofNat_Int, Int.natCast_zero, true_and, and_true, Option.some.injEq, Value.int.injEq, f1, f7, f9, f10, f11, f12, f13]
    exact ⟨hS3.new _ _, hOloc _ _, by rw [hpk, pick_step (by rw [hel]; omega), if_neg]; intro hg; rw [hgood (by omega)] at hg; simp only [Bool.and_eq_true, decide_eq_true_eq] at hg; omega⟩
  case refine_1.refine_1.refine_1.refine_2 h2 h3 h4 =>
    refine hJ3 _ _ ⟨l.length - (i + 1), by omega, i + 1, by omega, by omega, rfl, ?_⟩
    simp only [↓Tr.get_set, Nat.reduceEqDiff, if_true, if_false, ↓reduceIte, Int.natCast_add, Int.cast_ofNat_Int, Int.natCast_zero, true_and, and_true, Option.some.injEq, Value.int.injEq, f1, f7, f9, f10, f11, f12, f13]
    exact ⟨hS3.new _ _, hOloc _ _, by rw [hpk, pick_step (by rw [hel]; omega), if_neg]; intro hg; rw [hgood (by omega)] at hg; simp only [Bool.and_eq_true, decide_eq_true_eq] at hg; omega⟩
  case refine_1.refine_1.refine_2 h2 h3 =>
    refine hJ3 _ _ ⟨l.length - (i + 1), by omega, i + 1, by omega, by omega, rfl, ?_⟩
    simp only [↓Tr.get_set, Nat.reduceEqDiff, if_true, if_false, ↓reduceIte, Int.natCast_add, Int.cast_ofNat_Int, Int.natCast_zero, true_and, and_true, Option.some.injEq, Value.int.injEq, f1, f7, f9, f10, f11, f12, f13]
    exact ⟨hS3.new _ _, hOloc _ _, by rw [hpk, pick_step (by rw [hel]; omega), if_neg]; intro hg; rw [hgood (by omega)] at hg; simp only [Bool.and_eq_true, decide_eq_true_eq] at hg; omega⟩
  case refine_1.refine_2 h2 =>
    refine hJ2 _ _ ⟨q, by omega, q, outs, at_, sum, vo, by omega, rfl, ?_⟩
    simp only [↓Tr.get_set, Nat.reduceEqDiff, if_true, if_false, ↓reduceIte, Int.natCast_add, Int.cast_ofNat_Int, Int.natCast_zero, true_and, and_true, Option.some.injEq, Value.int.injEq, f1, f7, f9, f10, f11, f12]
    refine ⟨by omega, hS3, hO3, hvo, by omega, by omega, by omega, ?_⟩
    rw [hcf]
    conv => lhs; rw [greedyE, hpk, pick_end (by rw [hel]; omega)]
  case refine_1.refine_1.refine_1.refine_1.refine_1 h2 h3 h4 h5 =>
    refine Gw_s fun K' hK' => ?_
    simp (disch := (first | (simp only [ints_length, List.length_set, List.length_cons, List.length_nil, List.length_replicate, len_put, len_add, lim_put, lim_add, flatV_int, flatV_bool, flatV_str, flatV_ptr, flatV_sl, List.all_cons, List.all_nil, Bool.and_self, List.size_toArray, Nat.reduceAdd, Nat.zero_add]; done) | omega | (simp only [ints_length, List.length_set, List.length_cons, List.length_nil, List.length_replicate, len_put, len_add, lim_put, lim_add, flatV_int, flatV_bool, flatV_str, flatV_ptr, flatV_sl, List.all_cons, List.all_nil, Bool.and_self, List.size_toArray, Nat.reduceAdd, Nat.zero_add] <;> omega) | fail)) only [↓gd_move, ↓gd_pick, ↓gd_alloc, ↓gd_load, ↓gd_bin, ↓gd_un, ↓gd_fa, ↓gd_ia, ↓gd_len, ↓gd_lenOf, ↓gd_store, ↓gd_ix, ↓gd_fld, ↓gd_cap, ↓gd_ext', ↓gd_conv, ↓gd_mk, ↓gd_app, ↓gd_copy, ↓gd_next, ↓gd_fn, ↓gd_min, ↓gd_max, ↓gd_slice, ↓gd_build, ↓gd_buildSl, ↓gd_box, ↓gd_nilc', ↓gd_rng, ↓gd_appM, ↓gM_move, ↓gM_pick, ↓gM_alloc, ↓gM_load, ↓gM_bin, ↓gM_un, ↓gM_fa, ↓gM_ia, ↓gM_len, ↓gM_lenOf, ↓gM_ix, ↓gM_fld, ↓gM_cap, ↓gM_ext, ↓gM_conv, ↓gM_mk, ↓gM_fn, ↓gM_min, ↓gM_max, ↓gM_slice, ↓gM_build, ↓gM_buildSl, ↓gM_box, ↓gM_nilc, ↓gM_rng, ↓gM_appM, ↓GArg.ev, ↓evs, ↓evOpt, ↓Tr.get_set, Option.bind_some, Option.map_some, add_none, gb_lss, gb_gtr, gb_leq, gb_geq, gb_add, gb_sub, gb_mul, gb_eql', gb_neq', gu_not, gu_neg, gfold_min1, gfold_max1, wr_i64, wr_i32, wr_u8, wr_u16, wr_u32, glen_sl, glen_str, gadd_ptr, gia_sl, gmake_sq, zeros_ints, zeros_sl, gld_1, gld_n, gst_1, gst_n, gset_ok, gsetn_all, rd_put_same, rd_put_ne, rd_add_eq, rd_add_ne, rdn_put_ne, rdn_add_ne, rdn_put_all, rdn_add_all, mine_put_same, mine_put_ne, mine_add_eq, mine_add_ne, len_put, len_add, lim_put, lim_add, ints_at, ints_set, ints_length, Option.map_map, List.getElem?_toArray, List.getElem?_cons_zero, List.getElem?_cons_succ, List.length_cons, List.length_nil, List.length_set, List.size_toArray, Int.toNat_natCast, Nat.mul_one, Nat.add_zero, Nat.zero_add, ite_true, ite_false, if_true, if_false, Bool.false_eq_true, ↓reduceIte, decide_true, decide_false, Bool.not_true, Bool.not_false, blk_sl, ofs_sl, Nat.reduceEqDiff, Nat.reduceAdd, Nat.reduceMul, reduceCtorEq, Int.reduceToNat, ↓evParts, fillL_1, fillL_0, List.replicate_zero, ints_nil, f1, f7, f9, f10, f11, f12, f13, f14]
    obtain ⟨v', H4, e, hO5, hS5, hob⟩ := (hOloc (.cells [.int .i64 0, .int .i64 0, .int .i64 0, .int .u8 0, .int .i64 0, .int .i64 0] 0 true) (.cells (bcells l[i]!) 0 true)).app1 (x := .int .i64 i) (b := 8) (hS3.new _ _).wf (by omega) (by omega) (by omega)
    obtain ⟨hS6, hv6⟩ := hS5 H' (hS3.new _ _) (.inl hvo)
    have hvlt : blk vo ≠ H3.len := by
      rcases hO3.at_ with ⟨h, _⟩ | ⟨j, gc, h, _, hm⟩
      · rw [h] at hvo ⊢; have : H'.len ≤ 0 := hvo; show 0 ≠ H3.len; omega
      · rw [h]; exact Nat.ne_of_lt (mine_lt hS3.wf hm)
    have hlc : ∀ o, H4.rd H3.len o = (bcells l[i]!)[o]? := fun o => by
      rw [rd_obj (hob _ (Nat.lt_succ_self _) (.inl (Ne.symm hvlt))), rd_put_same]
    refine G1_eq e (hK' _ _ ?_)
    clear hK' K'
    repeat' (first | refine GW_seq ?_ | refine GW_line ?_ | refine Gw_nil ?_ | refine GN_seq ?_ | refine GN_blk ?_ | refine GW_block ?_ | refine GW_skip ?_ | refine GW_exit ?_ | refine GX_seq ?_ | refine GX_blk ?_ | refine GX_up rfl ?_ | refine GX_inv ?_ | refine GW_ret ?_ | refine GN_inv ?_ | refine GN_nil ?_ | refine GW_any rfl ?_ | refine Gp_nil ?_ | ((first | refine Gw_s fun K' hK' => ?_ | refine Gp_s fun K' hK' => ?_ | refine Gw_0 fun K' hK' => ?_ | intro K' hK'); (simp (disch := (first | (simp only [ints_length, List.length_set, List.length_cons, List.length_nil, List.length_replicate, len_put, len_add, lim_put, lim_add, flatV_int, flatV_bool, flatV_str, flatV_ptr, flatV_sl, List.all_cons, List.all_nil, Bool.and_self, List.size_toArray, Nat.reduceAdd, Nat.zero_add]; done) | omega | (simp only [ints_length, List.length_set, List.length_cons, List.length_nil, List.length_replicate, len_put, len_add, lim_put, lim_add, flatV_int, flatV_bool, flatV_str, flatV_ptr, flatV_sl, List.all_cons, List.all_nil, Bool.and_self, List.size_toArray, Nat.reduceAdd, Nat.zero_add] <;> omega) | fail)) only [↓gd_move, ↓gd_pick, ↓gd_alloc, ↓gd_load, ↓gd_bin, ↓gd_un, ↓gd_fa, ↓gd_ia, ↓gd_len, ↓gd_lenOf, ↓gd_store, ↓gd_ix, ↓gd_fld, ↓gd_cap, ↓gd_ext', ↓gd_conv, ↓gd_mk, ↓gd_app, ↓gd_copy, ↓gd_next, ↓gd_fn, ↓gd_min, ↓gd_max, ↓gd_slice, ↓gd_build, ↓gd_buildSl, ↓gd_box, ↓gd_nilc', ↓gd_rng, ↓gd_appM, ↓gM_move, ↓gM_pick, ↓gM_alloc, ↓gM_load, ↓gM_bin, ↓gM_un, ↓gM_fa, ↓gM_ia, ↓gM_len, ↓gM_lenOf, ↓gM_ix, ↓gM_fld, ↓gM_cap, ↓gM_ext, ↓gM_conv, ↓gM_mk, ↓gM_fn, ↓gM_min, ↓gM_max, ↓gM_slice, ↓gM_build, ↓gM_buildSl, ↓gM_box, ↓gM_nilc, ↓gM_rng, ↓gM_appM, ↓GArg.ev, ↓evs, ↓evOpt, ↓Tr.get_set, Option.bind_some, Option.map_some, add_none, gb_lss, gb_gtr, gb_leq, gb_geq, gb_add, gb_sub, gb_mul, gb_eql', gb_neq', gu_not, gu_neg, gfold_min1, gfold_max1, wr_i64, wr_i32, wr_u8, wr_u16, wr_u32, glen_sl, glen_str, gadd_ptr, gia_sl, gmake_sq, zeros_ints, zeros_sl, gld_1, gld_n, gst_1, gst_n, gset_ok, gsetn_all, rd_put_same, rd_put_ne, rd_add_eq, rd_add_ne, rdn_put_ne, rdn_add_ne, rdn_put_all, rdn_add_all, mine_put_same, mine_put_ne, mine_add_eq, mine_add_ne, len_put, len_add, lim_put, lim_add, ints_at, ints_set, ints_length, Option.map_map, List.getElem?_toArray, List.getElem?_cons_zero, List.getElem?_cons_succ, List.length_cons, List.length_nil, List.length_set, List.size_toArray, Int.toNat_natCast, Nat.mul_one, Nat.add_zero, Nat.zero_add, ite_true, ite_false, if_true, if_false, Bool.false_eq_true, ↓reduceIte, decide_true, decide_false, Bool.not_true, Bool.not_false, blk_sl, ofs_sl, Nat.reduceEqDiff, Nat.reduceAdd, Nat.reduceMul, reduceCtorEq, Int.reduceToNat, ↓evParts, fillL_1, fillL_0, List.replicate_zero, ints_nil, g30, f1, f7, f9, f10, f11, f12, f13, f14, hlc, bcells]; refine G1_go (hK' _ _ ?_); clear hK' K')) | ((first | refine Gw_dt fun A B C D hA hB hC hD => ?_ | refine Gw_df fun A B C D hA hB hC hD => ?_ | refine GW_cd fun A B C D hA hB hC hD => ?_); (simp only [↓Tr.get_set, Nat.reduceEqDiff, if_true, if_false, ↓reduceIte, g30, f1, f7, f9, f10, f11, f12, f13, f14, hlc, bcells]; first | (refine Gd_true (hA ?_); clear hA hB hC hD A B C D) | (refine Gd_false (hB ?_); clear hA hB hC hD A B C D) | (refine Gd_some (fun hc => hC ?_) (fun hc => hD ?_) <;> clear hA hB hC hD A B C D <;> (try simp only [decide_eq_true_eq, decide_eq_false_iff_not, Bool.not_eq_true', Bool.not_eq_false', Int.not_lt, Int.not_le, Bool.not_true, Bool.not_false, Bool.true_eq_false, Bool.false_eq_true, Decidable.not_not] at hc)))) | (refine GR.mk ?_; simp only [gresults, ↓Tr.get_set, Option.bind_some, Nat.reduceEqDiff, if_true, if_false, ↓reduceIte, gld_1, gld_n, g30, f1, f7, f9, f10, f11, f12, f13, f14, hlc, bcells]; refine ⟨_, rfl, ?_⟩; simp only [gone]))
    refine hJ2 _ _ ⟨q, by omega, q, outs ++ [i], l[i]!.J.toNat, sum + l[i]!.C, v', by omega, rfl, ?_⟩
    simp only [↓Tr.get_set, Nat.reduceEqDiff, if_true, if_false, ↓reduceIte, Int.natCast_add, Int.cast_ofNat_Int, Int.natCast_zero, true_and, and_true, Option.some.injEq, Value.int.injEq, f1, f7, f9, f10, f11, f12]
    rw [nats_snoc] at hO5
    rw [List.length_append, List.length_singleton]
    refine ⟨by omega, by omega, hS6, hO5, hv6, by omega, by omega, by omega, ?_⟩
    rw [hcf]
    have hp : pickE (l.map edge) (rows q) at_ sum (f + 1) = some i := by
      rw [hpk, pick_step (by rw [hel]; omega), if_pos]
      rw [hgood (by omega), decide_eq_true (by omega), decide_eq_true h5, decide_eq_true hc]; rfl
    conv => lhs; rw [greedyE, hp]
    have hE := edge_at (l := l) (k := i) (by omega)
    dsimp only
    rw [hE, List.append_assoc]
    rfl
end Go.Gh
