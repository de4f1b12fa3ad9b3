/-
  Refutes of diffcon and of its reference, walked.
-/
import Derived.Test.YtfcbdkbdalbjmaaDgW2
namespace Go.Gh
set_option linter.unusedSimpArgs false
set_option linter.unusedVariables false
open Go.RowKit
set_option maxRecDepth 4000

def chainF : List Bd → Int → Int → Option (Int × Int)
  | [], at_, sum => some (at_, sum)
  | b :: r, at_, sum => if b.I ≠ at_ then none else chainF r b.J (sum + b.C)
def offC (m : Nat) (k : Int) : Bool := decide (k < 0) || decide ((m : Int) ≤ k)
def pickB (l : List Bd) (cs : List Int) : List Bd := cs.map fun k => l[k.toNat]!
def refutesP (n : Int) (l : List Bd) (cs : List Int) : Int :=
  if checkF n l ≠ 0 then checkF n l else if cs.length = 0 ∨ n < cs.length then 1 else if cs.any (offC l.length) then 6 else
  match chainF (pickB l cs) (l[(cs[cs.length - 1]!).toNat]!).J 0 with
  | none => 8
  | some (_, s) => if 0 ≤ s then 17 else 0
def refutesR (n : Int) (l : List Bd) (cs : List Int) : Int :=
  if checkF n l ≠ 0 then checkF n l else if cs.length = 0 ∨ n < cs.length then 1 else if cs.any (offC l.length) then 6 else
  match chainF (pickB l cs) (l[(cs[0]!).toNat]!).I 0 with
  | none => 8
  | some (a, s) => if a ≠ (l[(cs[0]!).toNat]!).I then 8 else if 0 ≤ s then 17 else 0
theorem chain_end : ∀ (bs : List Bd) (at_ sum : Int) (a s : Int), chainF bs at_ sum = some (a, s) → (bs = [] ∧ a = at_) ∨ ∃ b, bs.getLast? = some b ∧ a = b.J
  | [], at_, sum, a, s, h => by cases h; exact .inl ⟨rfl, rfl⟩
  | b :: r, at_, sum, a, s, h => by
    unfold chainF at h
    split at h
    · cases h
    · rcases chain_end r _ _ _ _ h with ⟨rfl, rfl⟩ | ⟨c, h1, h2⟩
      · exact .inr ⟨b, rfl, rfl⟩
      · exact .inr ⟨c, by rw [List.getLast?_cons, h1]; rfl, h2⟩
theorem refutes_eq (n : Int) (l : List Bd) (cs : List Int) : refutesP n l cs = refutesR n l cs := by
  unfold refutesP refutesR
  split
  · rfl
  · split
    · rfl
    · rename_i hl
      split
      · rfl
      · obtain ⟨c, r, rfl⟩ : ∃ c r, cs = c :: r := by
          cases cs with
          | nil => exact absurd (.inl rfl) hl
          | cons c r => exact ⟨c, r, rfl⟩
        have hlast : (pickB l (c :: r)).getLast? = some l[((c :: r)[(c :: r).length - 1]!).toNat]! := by
          unfold pickB
          rw [List.getLast?_map, List.getLast?_eq_getElem?, List.getElem?_eq_getElem (by simp)]
          rw [getElem!_pos (c :: r) _ (by simp)]
          rfl
        generalize l[((c :: r)[(c :: r).length - 1]!).toNat]! = last at *
        have h0 : (c :: r)[0]! = c := rfl
        rw [h0]
        have hp : pickB l (c :: r) = l[c.toNat]! :: pickB l r := rfl
        rw [hp] at hlast ⊢
        generalize l[c.toNat]! = first at *
        unfold chainF
        rw [if_neg (show ¬ first.I ≠ first.I from fun h => h rfl)]
        by_cases hfl : first.I = last.J
        · rw [if_neg (show ¬ first.I ≠ last.J from fun h => h hfl)]
          cases hch : chainF (pickB l r) first.J (0 + first.C) with
          | none => rfl
          | some x =>
            obtain ⟨a, s⟩ := x
            have : a = last.J := by
              have h := chain_end (first :: pickB l r) first.I 0 a s (by unfold chainF; rw [if_neg (fun h => h rfl)]; exact hch)
              rcases h with ⟨h, _⟩ | ⟨b, h1, h2⟩
              · cases h
              · rw [hlast] at h1; cases h1; exact h2
            simp only
            rw [if_neg (show ¬ a ≠ first.I from fun h => h (by rw [this, hfl]))]
        · rw [if_pos (show first.I ≠ last.J from hfl)]
          cases hch : chainF (pickB l r) first.J (0 + first.C) with
          | none => rfl
          | some x =>
            obtain ⟨a, s⟩ := x
            have : a = last.J := by
              have h := chain_end (first :: pickB l r) first.I 0 a s (by unfold chainF; rw [if_neg (fun h => h rfl)]; exact hch)
              rcases h with ⟨h, _⟩ | ⟨b, h1, h2⟩
              · cases h
              · rw [hlast] at h1; cases h1; exact h2
            simp only
            rw [if_pos (show a ≠ first.I from fun h => hfl (by rw [← h, this]))]
theorem chain_step {bs : List Bd} {j : Nat} (h : j < bs.length) (a s : Int) : chainF (bs.drop j) a s = if bs[j]!.I ≠ a then none else chainF (bs.drop (j + 1)) bs[j]!.J (s + bs[j]!.C) := by
  rw [List.drop_eq_getElem_cons h, getElem!_pos bs j h]; rfl
theorem pickB_at {l : List Bd} {cs : List Int} {j : Nat} (h : j < cs.length) : (pickB l cs)[j]! = l[(cs[j]!).toNat]! := by
  rw [getElem!_pos _ j (by simpa [pickB] using h), getElem!_pos cs j h]; simp [pickB]
theorem pickB_len {l : List Bd} {cs : List Int} : (pickB l cs).length = cs.length := by simp [pickB]

theorem refutes_ok {H : GHeap} (hw : H.wf) {v w : Value} {l : List Bd} (hl : GRd H 6 v l.length (Bds l)) {cs : List Int} (hx : GRd H 1 w cs.length (ints .i64 cs)) (n : Int) :
    ∃ r H', gev G 27 [.int .i64 n, v, w] H = some (r, H') ∧ (r = .int .i64 (refutesP n l cs) ∧ Same H H') := by
  refine gev_GW (f := 27) rfl fun Post hPost => ?_
  simp only [frameOf, Nat.reduceAdd]
  have hsl := hl.isSl
  have hsx := hx.isSl
  repeat' (first | refine GW_seq ?_ | refine GW_line ?_ | refine Gw_nil ?_ | refine GN_seq ?_ | refine GN_blk ?_ | refine GW_block ?_ | refine GW_skip ?_ | refine GW_exit ?_ | refine GX_seq ?_ | refine GX_blk ?_ | refine GX_up rfl ?_ | refine GX_inv ?_ | refine GW_ret ?_ | refine GN_inv ?_ | refine GN_nil ?_ | refine GW_any rfl ?_ | refine Gp_nil ?_ | ((first | refine Gw_s fun K' hK' => ?_ | refine Gp_s fun K' hK' => ?_ | refine Gw_0 fun K' hK' => ?_ | intro K' hK'); (simp (disch := (first | (simp only [ints_length, List.length_set, List.length_cons, List.length_nil, List.length_replicate, len_put, len_add, lim_put, lim_add, flatV_int, flatV_bool, flatV_str, flatV_ptr, flatV_sl, List.all_cons, List.all_nil, Bool.and_self, List.size_toArray, Nat.reduceAdd, Nat.zero_add]; done) | omega | (simp only [ints_length, List.length_set, List.length_cons, List.length_nil, List.length_replicate, len_put, len_add, lim_put, lim_add, flatV_int, flatV_bool, flatV_str, flatV_ptr, flatV_sl, List.all_cons, List.all_nil, Bool.and_self, List.size_toArray, Nat.reduceAdd, Nat.zero_add] <;> omega) | fail)) only [↓gd_move, ↓gd_pick, ↓gd_alloc, ↓gd_load, ↓gd_bin, ↓gd_un, ↓gd_fa, ↓gd_ia, ↓gd_len, ↓gd_lenOf, ↓gd_store, ↓gd_ix, ↓gd_fld, ↓gd_cap, ↓gd_ext', ↓gd_conv, ↓gd_mk, ↓gd_app, ↓gd_copy, ↓gd_next, ↓gd_fn, ↓gd_min, ↓gd_max, ↓gd_slice, ↓gd_build, ↓gd_buildSl, ↓gd_box, ↓gd_nilc', ↓gd_rng, ↓gd_appM, ↓gM_move, ↓gM_pick, ↓gM_alloc, ↓gM_load, ↓gM_bin, ↓gM_un, ↓gM_fa, ↓gM_ia, ↓gM_len, ↓gM_lenOf, ↓gM_ix, ↓gM_fld, ↓gM_cap, ↓gM_ext, ↓gM_conv, ↓gM_mk, ↓gM_fn, ↓gM_min, ↓gM_max, ↓gM_slice, ↓gM_build, ↓gM_buildSl, ↓gM_box, ↓gM_nilc, ↓gM_rng, ↓gM_appM, ↓GArg.ev, ↓evs, ↓evOpt, ↓Tr.get_set, Option.bind_some, Option.map_some, add_none, gb_lss, gb_gtr, gb_leq, gb_geq, gb_add, gb_sub, gb_mul, gb_eql', gb_neq', gu_not, gu_neg, gfold_min1, gfold_max1, wr_i64, wr_i32, wr_u8, wr_u16, wr_u32, glen_sl, glen_str, gadd_ptr, gia_sl, gmake_sq, zeros_ints, zeros_sl, gld_1, gld_n, gst_1, gst_n, gset_ok, gsetn_all, rd_put_same, rd_put_ne, rd_add_eq, rd_add_ne, rdn_put_ne, rdn_add_ne, rdn_put_all, rdn_add_all, mine_put_same, mine_put_ne, mine_add_eq, mine_add_ne, len_put, len_add, lim_put, lim_add, ints_at, ints_set, ints_length, Option.map_map, List.getElem?_toArray, List.getElem?_cons_zero, List.getElem?_cons_succ, List.length_cons, List.length_nil, List.length_set, List.size_toArray, Int.toNat_natCast, Nat.mul_one, Nat.add_zero, Nat.zero_add, ite_true, ite_false, if_true, if_false, Bool.false_eq_true, ↓reduceIte, decide_true, decide_false, Bool.not_true, Bool.not_false, blk_sl, ofs_sl, Nat.reduceEqDiff, Nat.reduceAdd, Nat.reduceMul, reduceCtorEq, Int.reduceToNat, ↓evParts, fillL_1, fillL_0, List.replicate_zero, ints_nil, g27]; refine G1_go (hK' _ _ ?_); clear hK' K')) | ((first | refine Gw_dt fun A B C D hA hB hC hD => ?_ | refine Gw_df fun A B C D hA hB hC hD => ?_ | refine GW_cd fun A B C D hA hB hC hD => ?_); (simp only [↓Tr.get_set, Nat.reduceEqDiff, if_true, if_false, ↓reduceIte, g27]; first | (refine Gd_true (hA ?_); clear hA hB hC hD A B C D) | (refine Gd_false (hB ?_); clear hA hB hC hD A B C D) | (refine Gd_some (fun hc => hC ?_) (fun hc => hD ?_) <;> clear hA hB hC hD A B C D <;> (try simp only [decide_eq_true_eq, decide_eq_false_iff_not, Bool.not_eq_true', Bool.not_eq_false', Int.not_lt, Int.not_le, Bool.not_true, Bool.not_false, Bool.true_eq_false, Bool.false_eq_true, Decidable.not_not] at hc)))) | (refine GR.mk ?_; simp only [gresults, ↓Tr.get_set, Option.bind_some, Nat.reduceEqDiff, if_true, if_false, ↓reduceIte, gld_1, gld_n, g27]; refine ⟨_, rfl, ?_⟩; simp only [gone]))
  refine Gw_s fun K' hK' => G1_call (by simp only [gtarget, ↓GArg.ev, ↓evs, ↓Tr.get_set, Nat.reduceEqDiff, if_true, if_false, ↓reduceIte, Option.map_some]; rfl) (check_ok hw hl n) fun r1 H1 hq => hK' _ _ ?_
  obtain ⟨rfl, hS⟩ := hq
  repeat' (first | refine GW_seq ?_ | refine GW_line ?_ | refine Gw_nil ?_ | refine GN_seq ?_ | refine GN_blk ?_ | refine GW_block ?_ | refine GW_skip ?_ | refine GW_exit ?_ | refine GX_seq ?_ | refine GX_blk ?_ | refine GX_up rfl ?_ | refine GX_inv ?_ | refine GW_ret ?_ | refine GN_inv ?_ | refine GN_nil ?_ | refine GW_any rfl ?_ | refine Gp_nil ?_ | ((first | refine Gw_s fun K' hK' => ?_ | refine Gp_s fun K' hK' => ?_ | refine Gw_0 fun K' hK' => ?_ | intro K' hK'); (simp (disch := (first | (simp only [ints_length, List.length_set, List.length_cons, List.length_nil, List.length_replicate, len_put, len_add, lim_put, lim_add, flatV_int, flatV_bool, flatV_str, flatV_ptr, flatV_sl, List.all_cons, List.all_nil, Bool.and_self, List.size_toArray, Nat.reduceAdd, Nat.zero_add]; done) | omega | (simp only [ints_length, List.length_set, List.length_cons, List.length_nil, List.length_replicate, len_put, len_add, lim_put, lim_add, flatV_int, flatV_bool, flatV_str, flatV_ptr, flatV_sl, List.all_cons, List.all_nil, Bool.and_self, List.size_toArray, Nat.reduceAdd, Nat.zero_add] <;> omega) | fail)) only [↓gd_move, ↓gd_pick, ↓gd_alloc, ↓gd_load, ↓gd_bin, ↓gd_un, ↓gd_fa, ↓gd_ia, ↓gd_len, ↓gd_lenOf, ↓gd_store, ↓gd_ix, ↓gd_fld, ↓gd_cap, ↓gd_ext', ↓gd_conv, ↓gd_mk, ↓gd_app, ↓gd_copy, ↓gd_next, ↓gd_fn, ↓gd_min, ↓gd_max, ↓gd_slice, ↓gd_build, ↓gd_buildSl, ↓gd_box, ↓gd_nilc', ↓gd_rng, ↓gd_appM, ↓gM_move, ↓gM_pick, ↓gM_alloc, ↓gM_load, ↓gM_bin, ↓gM_un, ↓gM_fa, ↓gM_ia, ↓gM_len, ↓gM_lenOf, ↓gM_ix, ↓gM_fld, ↓gM_cap, ↓gM_ext, ↓gM_conv, ↓gM_mk, ↓gM_fn, ↓gM_min, ↓gM_max, ↓gM_slice, ↓gM_build, ↓gM_buildSl, ↓gM_box, ↓gM_nilc, ↓gM_rng, ↓gM_appM, ↓GArg.ev, ↓evs, ↓evOpt, ↓Tr.get_set, Option.bind_some, Option.map_some, add_none, gb_lss, gb_gtr, gb_leq, gb_geq, gb_add, gb_sub, gb_mul, gb_eql', gb_neq', gu_not, gu_neg, gfold_min1, gfold_max1, wr_i64, wr_i32, wr_u8, wr_u16, wr_u32, glen_sl, glen_str, gadd_ptr, gia_sl, gmake_sq, zeros_ints, zeros_sl, gld_1, gld_n, gst_1, gst_n, gset_ok, gsetn_all, rd_put_same, rd_put_ne, rd_add_eq, rd_add_ne, rdn_put_ne, rdn_add_ne, rdn_put_all, rdn_add_all, mine_put_same, mine_put_ne, mine_add_eq, mine_add_ne, len_put, len_add, lim_put, lim_add, ints_at, ints_set, ints_length, Option.map_map, List.getElem?_toArray, List.getElem?_cons_zero, List.getElem?_cons_succ, List.length_cons, List.length_nil, List.length_set, List.size_toArray, Int.toNat_natCast, Nat.mul_one, Nat.add_zero, Nat.zero_add, ite_true, ite_false, if_true, if_false, Bool.false_eq_true, ↓reduceIte, decide_true, decide_false, Bool.not_true, Bool.not_false, blk_sl, ofs_sl, Nat.reduceEqDiff, Nat.reduceAdd, Nat.reduceMul, reduceCtorEq, Int.reduceToNat, ↓evParts, fillL_1, fillL_0, List.replicate_zero, ints_nil, g27, hsx.len]; refine G1_go (hK' _ _ ?_); clear hK' K')) | ((first | refine Gw_dt fun A B C D hA hB hC hD => ?_ | refine Gw_df fun A B C D hA hB hC hD => ?_ | refine GW_cd fun A B C D hA hB hC hD => ?_); (simp only [↓Tr.get_set, Nat.reduceEqDiff, if_true, if_false, ↓reduceIte, g27, hsx.len]; first | (refine Gd_true (hA ?_); clear hA hB hC hD A B C D) | (refine Gd_false (hB ?_); clear hA hB hC hD A B C D) | (refine Gd_some (fun hc => hC ?_) (fun hc => hD ?_) <;> clear hA hB hC hD A B C D <;> (try simp only [decide_eq_true_eq, decide_eq_false_iff_not, Bool.not_eq_true', Bool.not_eq_false', Int.not_lt, Int.not_le, Bool.not_true, Bool.not_false, Bool.true_eq_false, Bool.false_eq_true, Decidable.not_not] at hc)))) | (refine GR.mk ?_; simp only [gresults, ↓Tr.get_set, Option.bind_some, Nat.reduceEqDiff, if_true, if_false, ↓reduceIte, gld_1, gld_n, g27, hsx.len]; refine ⟨_, rfl, ?_⟩; simp only [gone]))
  case refine_1 => exact hPost _ _ ⟨by rw [refutesP, if_pos hc], hS⟩
  case refine_2.refine_1 hc0 => exact hPost _ _ ⟨by rw [refutesP, if_neg (by omega), if_pos (by omega)], hS⟩
  case refine_2.refine_2.refine_1 hc0 hc1 => exact hPost _ _ ⟨by rw [refutesP, if_neg (by omega), if_pos (by omega)], hS⟩
  case refine_2.refine_2.refine_2 hc0 hc1 =>
  have hF : refutesP n l cs = if cs.any (offC l.length) then (6 : Int) else match chainF (pickB l cs) (l[(cs[cs.length - 1]!).toNat]!).J 0 with
      | none => 8
      | some (_, s) => if 0 ≤ s then 17 else 0 := by rw [refutesP, if_neg (by omega), if_neg (by omega)]
  obtain ⟨hn1, hn2, hl4, hV⟩ := checkF_ok hc0
  have hbx : ∀ k : Nat, k < cs.length → H1.rd (blk w) (ofs w + k) = some (.int .i64 cs[k]!) := fun k hk => by
    rw [hS.rd (hx.lt (by omega)), hx.rd (by rw [ints_length]; exact hk), ints_at hk]
  have hbI : ∀ k : Nat, k < l.length → H1.rd (blk v) (ofs v + k * 6) = some (.int .i64 l[k]!.I) := fun k hk => by
    rw [hS.rd (hl.lt (by omega)), hl.rd (by rw [Bds_len]; omega), show k * 6 = k * 6 + 0 from rfl, Bds_at l k hk 0 (by omega), getElem!_pos l k hk]; rfl
  have hbJ : ∀ k : Nat, k < l.length → H1.rd (blk v) (ofs v + k * 6 + 1) = some (.int .i64 l[k]!.J) := fun k hk => by
    rw [hS.rd (hl.lt (by omega)), Nat.add_assoc, hl.rd (by rw [Bds_len]; omega), Bds_at l k hk 1 (by omega), getElem!_pos l k hk]; rfl
  have hbC : ∀ k : Nat, k < l.length → H1.rd (blk v) (ofs v + k * 6 + 2) = some (.int .i64 l[k]!.C) := fun k hk => by
    rw [hS.rd (hl.lt (by omega)), Nat.add_assoc, hl.rd (by rw [Bds_len]; omega), Bds_at l k hk 2 (by omega), getElem!_pos l k hk]; rfl
  refine GW_loop (fun k fr H2 => H1 = H2 ∧ ∃ (j : Nat), j ≤ cs.length ∧ k = cs.length - j ∧ fr.get 1 = some (v) ∧ fr.get 2 = some (w) ∧ fr.get 29 = some (w) ∧ fr.get 30 = some (.int .i64 cs.length) ∧ fr.get 31 = some (.int .i64 j) ∧ ∀ i, i < j → offC l.length cs[i]! = false) ?_ cs.length ?_
  case refine_2 =>
    refine ⟨rfl, 0, by omega, by omega, ?_⟩
    simp only [↓Tr.get_set, Nat.reduceEqDiff, if_true, if_false, ↓reduceIte, Int.natCast_add, Int.cast_ofNat_Int, Int.natCast_zero, true_and, and_true, Option.some.injEq, Value.int.injEq]
    intro i hi; omega
  rintro k fr H2 ⟨hHH, j, hj, rfl, f1, f2, f29, f30, f31, hEq⟩ J hJ
  subst hHH
  have hlast0 : ((cs.length : Int) - 1).toNat = cs.length - 1 := by omega
  have hlastb : j = cs.length → 0 ≤ cs[cs.length - 1]! ∧ cs[cs.length - 1]! < l.length := fun h => by
    have := hEq (cs.length - 1) (by omega)
    simp only [offC, Bool.or_eq_false_iff, decide_eq_false_iff_not] at this
    omega
  repeat' (first | refine GW_seq ?_ | refine GW_line ?_ | refine Gw_nil ?_ | refine GN_seq ?_ | refine GN_blk ?_ | refine GW_block ?_ | refine GW_skip ?_ | refine GW_exit ?_ | refine GX_seq ?_ | refine GX_blk ?_ | refine GX_up rfl ?_ | refine GX_inv ?_ | refine GW_ret ?_ | refine GN_inv ?_ | refine GN_nil ?_ | refine GW_any rfl ?_ | refine Gp_nil ?_ | ((first | refine Gw_s fun K' hK' => ?_ | refine Gp_s fun K' hK' => ?_ | refine Gw_0 fun K' hK' => ?_ | intro K' hK'); (simp (disch := (first | (simp only [ints_length, List.length_set, List.length_cons, List.length_nil, List.length_replicate, len_put, len_add, lim_put, lim_add, flatV_int, flatV_bool, flatV_str, flatV_ptr, flatV_sl, List.all_cons, List.all_nil, Bool.and_self, List.size_toArray, Nat.reduceAdd, Nat.zero_add]; done) | omega | (simp only [ints_length, List.length_set, List.length_cons, List.length_nil, List.length_replicate, len_put, len_add, lim_put, lim_add, flatV_int, flatV_bool, flatV_str, flatV_ptr, flatV_sl, List.all_cons, List.all_nil, Bool.and_self, List.size_toArray, Nat.reduceAdd, Nat.zero_add] <;> omega) | fail)) only [↓gd_move, ↓gd_pick, ↓gd_alloc, ↓gd_load, ↓gd_bin, ↓gd_un, ↓gd_fa, ↓gd_ia, ↓gd_len, ↓gd_lenOf, ↓gd_store, ↓gd_ix, ↓gd_fld, ↓gd_cap, ↓gd_ext', ↓gd_conv, ↓gd_mk, ↓gd_app, ↓gd_copy, ↓gd_next, ↓gd_fn, ↓gd_min, ↓gd_max, ↓gd_slice, ↓gd_build, ↓gd_buildSl, ↓gd_box, ↓gd_nilc', ↓gd_rng, ↓gd_appM, ↓gM_move, ↓gM_pick, ↓gM_alloc, ↓gM_load, ↓gM_bin, ↓gM_un, ↓gM_fa, ↓gM_ia, ↓gM_len, ↓gM_lenOf, ↓gM_ix, ↓gM_fld, ↓gM_cap, ↓gM_ext, ↓gM_conv, ↓gM_mk, ↓gM_fn, ↓gM_min, ↓gM_max, ↓gM_slice, ↓gM_build, ↓gM_buildSl, ↓gM_box, ↓gM_nilc, ↓gM_rng, ↓gM_appM, ↓GArg.ev, ↓evs, ↓evOpt, ↓Tr.get_set, Option.bind_some, Option.map_some, add_none, gb_lss, gb_gtr, gb_leq, gb_geq, gb_add, gb_sub, gb_mul, gb_eql', gb_neq', gu_not, gu_neg, gfold_min1, gfold_max1, wr_i64, wr_i32, wr_u8, wr_u16, wr_u32, glen_sl, glen_str, gadd_ptr, gia_sl, gmake_sq, zeros_ints, zeros_sl, gld_1, gld_n, gst_1, gst_n, gset_ok, gsetn_all, rd_put_same, rd_put_ne, rd_add_eq, rd_add_ne, rdn_put_ne, rdn_add_ne, rdn_put_all, rdn_add_all, mine_put_same, mine_put_ne, mine_add_eq, mine_add_ne, len_put, len_add, lim_put, lim_add, ints_at, ints_set, ints_length, Option.map_map, List.getElem?_toArray, List.getElem?_cons_zero, List.getElem?_cons_succ, List.length_cons, List.length_nil, List.length_set, List.size_toArray, Int.toNat_natCast, Nat.mul_one, Nat.add_zero, Nat.zero_add, ite_true, ite_false, if_true, if_false, Bool.false_eq_true, ↓reduceIte, decide_true, decide_false, Bool.not_true, Bool.not_false, blk_sl, ofs_sl, Nat.reduceEqDiff, Nat.reduceAdd, Nat.reduceMul, reduceCtorEq, Int.reduceToNat, ↓evParts, fillL_1, fillL_0, List.replicate_zero, ints_nil, g27, f1, f2, f29, f30, f31, hsx.len, hsx.ia, hsl.len, hsl.ia, hbx, hbJ, hlast0]; refine G1_go (hK' _ _ ?_); clear hK' K')) | ((first | refine Gw_dt fun A B C D hA hB hC hD => ?_ | refine Gw_df fun A B C D hA hB hC hD => ?_ | refine GW_cd fun A B C D hA hB hC hD => ?_); (simp only [↓Tr.get_set, Nat.reduceEqDiff, if_true, if_false, ↓reduceIte, g27, f1, f2, f29, f30, f31, hsx.len, hsx.ia, hsl.len, hsl.ia, hbx, hbJ, hlast0]; first | (refine Gd_true (hA ?_); clear hA hB hC hD A B C D) | (refine Gd_false (hB ?_); clear hA hB hC hD A B C D) | (refine Gd_some (fun hc => hC ?_) (fun hc => hD ?_) <;> clear hA hB hC hD A B C D <;> (try simp only [decide_eq_true_eq, decide_eq_false_iff_not, Bool.not_eq_true', Bool.not_eq_false', Int.not_lt, Int.not_le, Bool.not_true, Bool.not_false, Bool.true_eq_false, Bool.false_eq_true, Decidable.not_not] at hc)))) | (refine GR.mk ?_; simp only [gresults, ↓Tr.get_set, Option.bind_some, Nat.reduceEqDiff, if_true, if_false, ↓reduceIte, gld_1, gld_n, g27, f1, f2, f29, f30, f31, hsx.len, hsx.ia, hsl.len, hsl.ia, hbx, hbJ, hlast0]; refine ⟨_, rfl, ?_⟩; simp only [gone]))
  case refine_1.refine_1.refine_1 hc2 hc3 =>
    refine hPost _ _ ⟨?_, hS⟩
    rw [hF, if_pos (any_first (j := j) (by omega) ?_)]
    rw [offC, decide_eq_true hc]; rfl
  case refine_1.refine_1.refine_2.refine_1 hc2 hc3 hc4 =>
    refine hPost _ _ ⟨?_, hS⟩
    rw [hF, if_pos (any_first (j := j) (by omega) ?_)]
    rw [offC, decide_eq_true hc, Bool.or_true]
  case refine_1.refine_1.refine_2.refine_2 hc2 hc3 hc4 =>
    refine hJ _ _ ⟨cs.length - (j + 1), by omega, rfl, j + 1, by omega, rfl, ?_⟩
    simp only [↓Tr.get_set, Nat.reduceEqDiff, if_true, if_false, ↓reduceIte, Int.natCast_add, Int.cast_ofNat_Int, Int.natCast_zero, true_and, and_true, Option.some.injEq, Value.int.injEq, f1, f2, f29, f30]
    intro i hi
    rcases Nat.lt_succ_iff_lt_or_eq.1 hi with h | rfl
    · exact hEq i h
    · rw [offC, decide_eq_false (by omega), decide_eq_false (by omega)]; rfl
  case refine_1.refine_2 hc2 =>
  have hoff : cs.any (offC l.length) = false := any_none fun i hi => hEq i (by omega)
  rw [if_neg (by rw [hoff]; exact Bool.false_ne_true)] at hF
  have hcb : ∀ i, i < cs.length → 0 ≤ cs[i]! ∧ cs[i]! < l.length := fun i hi => by
    have := hEq i (by omega)
    simp only [offC, Bool.or_eq_false_iff, decide_eq_false_iff_not] at this
    omega
  refine GW_loop (fun k fr H2 => H1 = H2 ∧ ∃ (j : Nat) (a s : Int), j ≤ cs.length ∧ k = cs.length - j ∧ fr.get 1 = some (v) ∧ fr.get 10 = some (.int .i64 a) ∧ fr.get 11 = some (.int .i64 s) ∧ fr.get 54 = some (w) ∧ fr.get 55 = some (.int .i64 cs.length) ∧ fr.get 56 = some (.int .i64 j) ∧ -(j * 1099511627776) ≤ s ∧ s ≤ j * 1099511627776 ∧
    chainF (pickB l cs) (l[(cs[cs.length - 1]!).toNat]!).J 0 = chainF ((pickB l cs).drop j) a s) ?_ cs.length ?_
  case refine_2 =>
    refine ⟨rfl, 0, (l[(cs[cs.length - 1]!).toNat]!).J, 0, by omega, by omega, ?_⟩
    simp only [↓Tr.get_set, Nat.reduceEqDiff, if_true, if_false, ↓reduceIte, Int.natCast_add, Int.cast_ofNat_Int, Int.natCast_zero, true_and, and_true, Option.some.injEq, Value.int.injEq, f1, f2]
    exact ⟨by omega, by omega, rfl⟩
  rintro k fr H2 ⟨hHH, j, a, s, hj, rfl, f1, f10, f11, f54, f55, f56, hs1, hs2, hch⟩ J2 hJ2
  subst hHH
  have hcj := fun h : j < cs.length => hcb j h
  have hst := fun h : j < cs.length => chain_step (bs := pickB l cs) (j := j) (by rw [pickB_len]; exact h) a s
  have hvb : j < cs.length → -1099511627776 ≤ l[(cs[j]!).toNat]!.C ∧ l[(cs[j]!).toNat]!.C ≤ 1099511627776 := fun h => by
    have := hcb j h
    have hk : (cs[j]!).toNat < l.length := by omega
    rw [getElem!_pos l _ hk]
    have := hV _ (List.getElem_mem hk)
    omega
  have hjj : (cs.length : Int) ≤ 512 := by omega
  repeat' (first | refine GW_seq ?_ | refine GW_line ?_ | refine Gw_nil ?_ | refine GN_seq ?_ | refine GN_blk ?_ | refine GW_block ?_ | refine GW_skip ?_ | refine GW_exit ?_ | refine GX_seq ?_ | refine GX_blk ?_ | refine GX_up rfl ?_ | refine GX_inv ?_ | refine GW_ret ?_ | refine GN_inv ?_ | refine GN_nil ?_ | refine GW_any rfl ?_ | refine Gp_nil ?_ | ((first | refine Gw_s fun K' hK' => ?_ | refine Gp_s fun K' hK' => ?_ | refine Gw_0 fun K' hK' => ?_ | intro K' hK'); (simp (disch := (first | (simp only [ints_length, List.length_set, List.length_cons, List.length_nil, List.length_replicate, len_put, len_add, lim_put, lim_add, flatV_int, flatV_bool, flatV_str, flatV_ptr, flatV_sl, List.all_cons, List.all_nil, Bool.and_self, List.size_toArray, Nat.reduceAdd, Nat.zero_add]; done) | omega | (simp only [ints_length, List.length_set, List.length_cons, List.length_nil, List.length_replicate, len_put, len_add, lim_put, lim_add, flatV_int, flatV_bool, flatV_str, flatV_ptr, flatV_sl, List.all_cons, List.all_nil, Bool.and_self, List.size_toArray, Nat.reduceAdd, Nat.zero_add] <;> omega) | fail)) only [↓gd_move, ↓gd_pick, ↓gd_alloc, ↓gd_load, ↓gd_bin, ↓gd_un, ↓gd_fa, ↓gd_ia, ↓gd_len, ↓gd_lenOf, ↓gd_store, ↓gd_ix, ↓gd_fld, ↓gd_cap, ↓gd_ext', ↓gd_conv, ↓gd_mk, ↓gd_app, ↓gd_copy, ↓gd_next, ↓gd_fn, ↓gd_min, ↓gd_max, ↓gd_slice, ↓gd_build, ↓gd_buildSl, ↓gd_box, ↓gd_nilc', ↓gd_rng, ↓gd_appM, ↓gM_move, ↓gM_pick, ↓gM_alloc, ↓gM_load, ↓gM_bin, ↓gM_un, ↓gM_fa, ↓gM_ia, ↓gM_len, ↓gM_lenOf, ↓gM_ix, ↓gM_fld, ↓gM_cap, ↓gM_ext, ↓gM_conv, ↓gM_mk, ↓gM_fn, ↓gM_min, ↓gM_max, ↓gM_slice, ↓gM_build, ↓gM_buildSl, ↓gM_box, ↓gM_nilc, ↓gM_rng, ↓gM_appM, ↓GArg.ev, ↓evs, ↓evOpt, ↓Tr.get_set, Option.bind_some, Option.map_some, add_none, gb_lss, gb_gtr, gb_leq, gb_geq, gb_add, gb_sub, gb_mul, gb_eql', gb_neq', gu_not, gu_neg, gfold_min1, gfold_max1, wr_i64, wr_i32, wr_u8, wr_u16, wr_u32, glen_sl, glen_str, gadd_ptr, gia_sl, gmake_sq, zeros_ints, zeros_sl, gld_1, gld_n, gst_1, gst_n, gset_ok, gsetn_all, rd_put_same, rd_put_ne, rd_add_eq, rd_add_ne, rdn_put_ne, rdn_add_ne, rdn_put_all, rdn_add_all, mine_put_same, mine_put_ne, mine_add_eq, mine_add_ne, len_put, len_add, lim_put, lim_add, ints_at, ints_set, ints_length, Option.map_map, List.getElem?_toArray, List.getElem?_cons_zero, List.getElem?_cons_succ, List.length_cons, List.length_nil, List.length_set, List.size_toArray, Int.toNat_natCast, Nat.mul_one, Nat.add_zero, Nat.zero_add, ite_true, ite_false, if_true, if_false, Bool.false_eq_true, ↓reduceIte, decide_true, decide_false, Bool.not_true, Bool.not_false, blk_sl, ofs_sl, Nat.reduceEqDiff, Nat.reduceAdd, Nat.reduceMul, reduceCtorEq, Int.reduceToNat, ↓evParts, fillL_1, fillL_0, List.replicate_zero, ints_nil, g27, f1, f10, f11, f54, f55, f56, hsx.len, hsx.ia, hsl.len, hsl.ia, hbx, hbI, hbJ, hbC]; refine G1_go (hK' _ _ ?_); clear hK' K')) | ((first | refine Gw_dt fun A B C D hA hB hC hD => ?_ | refine Gw_df fun A B C D hA hB hC hD => ?_ | refine GW_cd fun A B C D hA hB hC hD => ?_); (simp only [↓Tr.get_set, Nat.reduceEqDiff, if_true, if_false, ↓reduceIte, g27, f1, f10, f11, f54, f55, f56, hsx.len, hsx.ia, hsl.len, hsl.ia, hbx, hbI, hbJ, hbC]; first | (refine Gd_true (hA ?_); clear hA hB hC hD A B C D) | (refine Gd_false (hB ?_); clear hA hB hC hD A B C D) | (refine Gd_some (fun hc => hC ?_) (fun hc => hD ?_) <;> clear hA hB hC hD A B C D <;> (try simp only [decide_eq_true_eq, decide_eq_false_iff_not, Bool.not_eq_true', Bool.not_eq_false', Int.not_lt, Int.not_le, Bool.not_true, Bool.not_false, Bool.true_eq_false, Bool.false_eq_true, Decidable.not_not] at hc)))) | (refine GR.mk ?_; simp only [gresults, ↓Tr.get_set, Option.bind_some, Nat.reduceEqDiff, if_true, if_false, ↓reduceIte, gld_1, gld_n, g27, f1, f10, f11, f54, f55, f56, hsx.len, hsx.ia, hsl.len, hsl.ia, hbx, hbI, hbJ, hbC]; refine ⟨_, rfl, ?_⟩; simp only [gone]))
  case refine_1.refine_1.refine_1 h2 h3 =>
    refine hPost _ _ ⟨?_, hS⟩
    rw [hF, hch, hst (by omega), if_pos (by rw [pickB_at (by omega)]; exact hc)]
  case refine_1.refine_1.refine_2 h2 h3 =>
    have := hvb (by omega)
    refine hJ2 _ _ ⟨cs.length - (j + 1), by omega, rfl, j + 1, l[(cs[j]!).toNat]!.J, s + l[(cs[j]!).toNat]!.C, by omega, rfl, ?_⟩
    simp only [↓Tr.get_set, Nat.reduceEqDiff, if_true, if_false, ↓reduceIte, Int.natCast_add, Int.cast_ofNat_Int, Int.natCast_zero, true_and, and_true, Option.some.injEq, Value.int.injEq, f1, f54, f55]
    refine ⟨by omega, by omega, ?_⟩
    rw [hch, hst (by omega), if_neg (by rw [pickB_at (by omega)]; exact fun h => h hc), pickB_at (by omega)]
  case refine_1.refine_2.refine_1 h2 h3 =>
    refine hPost _ _ ⟨?_, hS⟩
    rw [hF, hch, List.drop_eq_nil_of_le (by rw [pickB_len]; omega)]
    simp only [chainF]
    rw [if_pos hc]
  case refine_1.refine_2.refine_2 h2 h3 =>
    refine hPost _ _ ⟨?_, hS⟩
    rw [hF, hch, List.drop_eq_nil_of_le (by rw [pickB_len]; omega)]
    simp only [chainF]
    rw [if_neg (by omega)]
theorem rrefutes_ok {H : GHeap} (hw : H.wf) {v w : Value} {l : List Bd} (hl : GRd H 6 v l.length (Bds l)) {cs : List Int} (hx : GRd H 1 w cs.length (ints .i64 cs)) (n : Int) :
    ∃ r H', gev G 28 [.int .i64 n, v, w] H = some (r, H') ∧ (r = .int .i64 (refutesR n l cs) ∧ Same H H') := by
  refine gev_GW (f := 28) rfl fun Post hPost => ?_
  simp only [frameOf, Nat.reduceAdd]
  have hsl := hl.isSl
  have hsx := hx.isSl
  repeat' (first | refine GW_seq ?_ | refine GW_line ?_ | refine Gw_nil ?_ | refine GN_seq ?_ | refine GN_blk ?_ | refine GW_block ?_ | refine GW_skip ?_ | refine GW_exit ?_ | refine GX_seq ?_ | refine GX_blk ?_ | refine GX_up rfl ?_ | refine GX_inv ?_ | refine GW_ret ?_ | refine GN_inv ?_ | refine GN_nil ?_ | refine GW_any rfl ?_ | refine Gp_nil ?_ | ((first | refine Gw_s fun K' hK' => ?_ | refine Gp_s fun K' hK' => ?_ | refine Gw_0 fun K' hK' => ?_ | intro K' hK'); (simp (disch := (first | (simp only [ints_length, List.length_set, List.length_cons, List.length_nil, List.length_replicate, len_put, len_add, lim_put, lim_add, flatV_int, flatV_bool, flatV_str, flatV_ptr, flatV_sl, List.all_cons, List.all_nil, Bool.and_self, List.size_toArray, Nat.reduceAdd, Nat.zero_add]; done) | omega | (simp only [ints_length, List.length_set, List.length_cons, List.length_nil, List.length_replicate, len_put, len_add, lim_put, lim_add, flatV_int, flatV_bool, flatV_str, flatV_ptr, flatV_sl, List.all_cons, List.all_nil, Bool.and_self, List.size_toArray, Nat.reduceAdd, Nat.zero_add] <;> omega) | fail)) only [↓gd_move, ↓gd_pick, ↓gd_alloc, ↓gd_load, ↓gd_bin, ↓gd_un, ↓gd_fa, ↓gd_ia, ↓gd_len, ↓gd_lenOf, ↓gd_store, ↓gd_ix, ↓gd_fld, ↓gd_cap, ↓gd_ext', ↓gd_conv, ↓gd_mk, ↓gd_app, ↓gd_copy, ↓gd_next, ↓gd_fn, ↓gd_min, ↓gd_max, ↓gd_slice, ↓gd_build, ↓gd_buildSl, ↓gd_box, ↓gd_nilc', ↓gd_rng, ↓gd_appM, ↓gM_move, ↓gM_pick, ↓gM_alloc, ↓gM_load, ↓gM_bin, ↓gM_un, ↓gM_fa, ↓gM_ia, ↓gM_len, ↓gM_lenOf, ↓gM_ix, ↓gM_fld, ↓gM_cap, ↓gM_ext, ↓gM_conv, ↓gM_mk, ↓gM_fn, ↓gM_min, ↓gM_max, ↓gM_slice, ↓gM_build, ↓gM_buildSl, ↓gM_box, ↓gM_nilc, ↓gM_rng, ↓gM_appM, ↓GArg.ev, ↓evs, ↓evOpt, ↓Tr.get_set, Option.bind_some, Option.map_some, add_none, gb_lss, gb_gtr, gb_leq, gb_geq, gb_add, gb_sub, gb_mul, gb_eql', gb_neq', gu_not, gu_neg, gfold_min1, gfold_max1, wr_i64, wr_i32, wr_u8, wr_u16, wr_u32, glen_sl, glen_str, gadd_ptr, gia_sl, gmake_sq, zeros_ints, zeros_sl, gld_1, gld_n, gst_1, gst_n, gset_ok, gsetn_all, rd_put_same, rd_put_ne, rd_add_eq, rd_add_ne, rdn_put_ne, rdn_add_ne, rdn_put_all, rdn_add_all, mine_put_same, mine_put_ne, mine_add_eq, mine_add_ne, len_put, len_add, lim_put, lim_add, ints_at, ints_set, ints_length, Option.map_map, List.getElem?_toArray, List.getElem?_cons_zero, List.getElem?_cons_succ, List.length_cons, List.length_nil, List.length_set, List.size_toArray, Int.toNat_natCast, Nat.mul_one, Nat.add_zero, Nat.zero_add, ite_true, ite_false, if_true, if_false, Bool.false_eq_true, ↓reduceIte, decide_true, decide_false, Bool.not_true, Bool.not_false, blk_sl, ofs_sl, Nat.reduceEqDiff, Nat.reduceAdd, Nat.reduceMul, reduceCtorEq, Int.reduceToNat, ↓evParts, fillL_1, fillL_0, List.replicate_zero, ints_nil, g28]; refine G1_go (hK' _ _ ?_); clear hK' K')) | ((first | refine Gw_dt fun A B C D hA hB hC hD => ?_ | refine Gw_df fun A B C D hA hB hC hD => ?_ | refine GW_cd fun A B C D hA hB hC hD => ?_); (simp only [↓Tr.get_set, Nat.reduceEqDiff, if_true, if_false, ↓reduceIte, g28]; first | (refine Gd_true (hA ?_); clear hA hB hC hD A B C D) | (refine Gd_false (hB ?_); clear hA hB hC hD A B C D) | (refine Gd_some (fun hc => hC ?_) (fun hc => hD ?_) <;> clear hA hB hC hD A B C D <;> (try simp only [decide_eq_true_eq, decide_eq_false_iff_not, Bool.not_eq_true', Bool.not_eq_false', Int.not_lt, Int.not_le, Bool.not_true, Bool.not_false, Bool.true_eq_false, Bool.false_eq_true, Decidable.not_not] at hc)))) | (refine GR.mk ?_; simp only [gresults, ↓Tr.get_set, Option.bind_some, Nat.reduceEqDiff, if_true, if_false, ↓reduceIte, gld_1, gld_n, g28]; refine ⟨_, rfl, ?_⟩; simp only [gone]))
  refine Gw_s fun K' hK' => G1_call (by simp only [gtarget, ↓GArg.ev, ↓evs, ↓Tr.get_set, Nat.reduceEqDiff, if_true, if_false, ↓reduceIte, Option.map_some]; rfl) (rcheck_ok hw hl n) fun r1 H1 hq => hK' _ _ ?_
  obtain ⟨rfl, hS⟩ := hq
  repeat' (first | refine GW_seq ?_ | refine GW_line ?_ | refine Gw_nil ?_ | refine GN_seq ?_ | refine GN_blk ?_ | refine GW_block ?_ | refine GW_skip ?_ | refine GW_exit ?_ | refine GX_seq ?_ | refine GX_blk ?_ | refine GX_up rfl ?_ | refine GX_inv ?_ | refine GW_ret ?_ | refine GN_inv ?_ | refine GN_nil ?_ | refine GW_any rfl ?_ | refine Gp_nil ?_ | ((first | refine Gw_s fun K' hK' => ?_ | refine Gp_s fun K' hK' => ?_ | refine Gw_0 fun K' hK' => ?_ | intro K' hK'); (simp (disch := (first | (simp only [ints_length, List.length_set, List.length_cons, List.length_nil, List.length_replicate, len_put, len_add, lim_put, lim_add, flatV_int, flatV_bool, flatV_str, flatV_ptr, flatV_sl, List.all_cons, List.all_nil, Bool.and_self, List.size_toArray, Nat.reduceAdd, Nat.zero_add]; done) | omega | (simp only [ints_length, List.length_set, List.length_cons, List.length_nil, List.length_replicate, len_put, len_add, lim_put, lim_add, flatV_int, flatV_bool, flatV_str, flatV_ptr, flatV_sl, List.all_cons, List.all_nil, Bool.and_self, List.size_toArray, Nat.reduceAdd, Nat.zero_add] <;> omega) | fail)) only [↓gd_move, ↓gd_pick, ↓gd_alloc, ↓gd_load, ↓gd_bin, ↓gd_un, ↓gd_fa, ↓gd_ia, ↓gd_len, ↓gd_lenOf, ↓gd_store, ↓gd_ix, ↓gd_fld, ↓gd_cap, ↓gd_ext', ↓gd_conv, ↓gd_mk, ↓gd_app, ↓gd_copy, ↓gd_next, ↓gd_fn, ↓gd_min, ↓gd_max, ↓gd_slice, ↓gd_build, ↓gd_buildSl, ↓gd_box, ↓gd_nilc', ↓gd_rng, ↓gd_appM, ↓gM_move, ↓gM_pick, ↓gM_alloc, ↓gM_load, ↓gM_bin, ↓gM_un, ↓gM_fa, ↓gM_ia, ↓gM_len, ↓gM_lenOf, ↓gM_ix, ↓gM_fld, ↓gM_cap, ↓gM_ext, ↓gM_conv, ↓gM_mk, ↓gM_fn, ↓gM_min, ↓gM_max, ↓gM_slice, ↓gM_build, ↓gM_buildSl, ↓gM_box, ↓gM_nilc, ↓gM_rng, ↓gM_appM, ↓GArg.ev, ↓evs, ↓evOpt, ↓Tr.get_set, Option.bind_some, Option.map_some, add_none, gb_lss, gb_gtr, gb_leq, gb_geq, gb_add, gb_sub, gb_mul, gb_eql', gb_neq', gu_not, gu_neg, gfold_min1, gfold_max1, wr_i64, wr_i32, wr_u8, wr_u16, wr_u32, glen_sl, glen_str, gadd_ptr, gia_sl, gmake_sq, zeros_ints, zeros_sl, gld_1, gld_n, gst_1, gst_n, gset_ok, gsetn_all, rd_put_same, rd_put_ne, rd_add_eq, rd_add_ne, rdn_put_ne, rdn_add_ne, rdn_put_all, rdn_add_all, mine_put_same, mine_put_ne, mine_add_eq, mine_add_ne, len_put, len_add, lim_put, lim_add, ints_at, ints_set, ints_length, Option.map_map, List.getElem?_toArray, List.getElem?_cons_zero, List.getElem?_cons_succ, List.length_cons, List.length_nil, List.length_set, List.size_toArray, Int.toNat_natCast, Nat.mul_one, Nat.add_zero, Nat.zero_add, ite_true, ite_false, if_true, if_false, Bool.false_eq_true, ↓reduceIte, decide_true, decide_false, Bool.not_true, Bool.not_false, blk_sl, ofs_sl, Nat.reduceEqDiff, Nat.reduceAdd, Nat.reduceMul, reduceCtorEq, Int.reduceToNat, ↓evParts, fillL_1, fillL_0, List.replicate_zero, ints_nil, g28, hsx.len]; refine G1_go (hK' _ _ ?_); clear hK' K')) | ((first | refine Gw_dt fun A B C D hA hB hC hD => ?_ | refine Gw_df fun A B C D hA hB hC hD => ?_ | refine GW_cd fun A B C D hA hB hC hD => ?_); (simp only [↓Tr.get_set, Nat.reduceEqDiff, if_true, if_false, ↓reduceIte, g28, hsx.len]; first | (refine Gd_true (hA ?_); clear hA hB hC hD A B C D) | (refine Gd_false (hB ?_); clear hA hB hC hD A B C D) | (refine Gd_some (fun hc => hC ?_) (fun hc => hD ?_) <;> clear hA hB hC hD A B C D <;> (try simp only [decide_eq_true_eq, decide_eq_false_iff_not, Bool.not_eq_true', Bool.not_eq_false', Int.not_lt, Int.not_le, Bool.not_true, Bool.not_false, Bool.true_eq_false, Bool.false_eq_true, Decidable.not_not] at hc)))) | (refine GR.mk ?_; simp only [gresults, ↓Tr.get_set, Option.bind_some, Nat.reduceEqDiff, if_true, if_false, ↓reduceIte, gld_1, gld_n, g28, hsx.len]; refine ⟨_, rfl, ?_⟩; simp only [gone]))
  case refine_1 => exact hPost _ _ ⟨by rw [refutesR, if_pos hc], hS⟩
  case refine_2.refine_1 hc0 => exact hPost _ _ ⟨by rw [refutesR, if_neg (by omega), if_pos (by omega)], hS⟩
  case refine_2.refine_2.refine_1 hc0 hc1 => exact hPost _ _ ⟨by rw [refutesR, if_neg (by omega), if_pos (by omega)], hS⟩
  case refine_2.refine_2.refine_2 hc0 hc1 =>
  have hF : refutesR n l cs = if cs.any (offC l.length) then (6 : Int) else match chainF (pickB l cs) (l[(cs[0]!).toNat]!).I 0 with
      | none => 8
      | some (a, s) => if a ≠ (l[(cs[0]!).toNat]!).I then 8 else if 0 ≤ s then 17 else 0 := by rw [refutesR, if_neg (by omega), if_neg (by omega)]
  obtain ⟨hn1, hn2, hl4, hV⟩ := checkF_ok hc0
  have hbx : ∀ k : Nat, k < cs.length → H1.rd (blk w) (ofs w + k) = some (.int .i64 cs[k]!) := fun k hk => by
    rw [hS.rd (hx.lt (by omega)), hx.rd (by rw [ints_length]; exact hk), ints_at hk]
  have hbI : ∀ k : Nat, k < l.length → H1.rd (blk v) (ofs v + k * 6) = some (.int .i64 l[k]!.I) := fun k hk => by
    rw [hS.rd (hl.lt (by omega)), hl.rd (by rw [Bds_len]; omega), show k * 6 = k * 6 + 0 from rfl, Bds_at l k hk 0 (by omega), getElem!_pos l k hk]; rfl
  have hbJ : ∀ k : Nat, k < l.length → H1.rd (blk v) (ofs v + k * 6 + 1) = some (.int .i64 l[k]!.J) := fun k hk => by
    rw [hS.rd (hl.lt (by omega)), Nat.add_assoc, hl.rd (by rw [Bds_len]; omega), Bds_at l k hk 1 (by omega), getElem!_pos l k hk]; rfl
  have hbC : ∀ k : Nat, k < l.length → H1.rd (blk v) (ofs v + k * 6 + 2) = some (.int .i64 l[k]!.C) := fun k hk => by
    rw [hS.rd (hl.lt (by omega)), Nat.add_assoc, hl.rd (by rw [Bds_len]; omega), Bds_at l k hk 2 (by omega), getElem!_pos l k hk]; rfl
  refine GW_loop (fun k fr H2 => H1 = H2 ∧ ∃ (j : Nat), j ≤ cs.length ∧ k = cs.length - j ∧ fr.get 1 = some (v) ∧ fr.get 2 = some (w) ∧ fr.get 29 = some (w) ∧ fr.get 30 = some (.int .i64 cs.length) ∧ fr.get 31 = some (.int .i64 j) ∧ ∀ i, i < j → offC l.length cs[i]! = false) ?_ cs.length ?_
  case refine_2 =>
    refine ⟨rfl, 0, by omega, by omega, ?_⟩
    simp only [↓Tr.get_set, Nat.reduceEqDiff, if_true, if_false, ↓reduceIte, Int.natCast_add, Int.cast_ofNat_Int, Int.natCast_zero, true_and, and_true, Option.some.injEq, Value.int.injEq]
    intro i hi; omega
  rintro k fr H2 ⟨hHH, j, hj, rfl, f1, f2, f29, f30, f31, hEq⟩ J hJ
  subst hHH
  have hbx0 : H1.rd (blk w) (ofs w) = some (.int .i64 cs[0]!) := hbx 0 (by omega)
  have hlastb : j = cs.length → 0 ≤ cs[0]! ∧ cs[0]! < l.length := fun h => by
    have := hEq 0 (by omega)
    simp only [offC, Bool.or_eq_false_iff, decide_eq_false_iff_not] at this
    omega
  repeat' (first | refine GW_seq ?_ | refine GW_line ?_ | refine Gw_nil ?_ | refine GN_seq ?_ | refine GN_blk ?_ | refine GW_block ?_ | refine GW_skip ?_ | refine GW_exit ?_ | refine GX_seq ?_ | refine GX_blk ?_ | refine GX_up rfl ?_ | refine GX_inv ?_ | refine GW_ret ?_ | refine GN_inv ?_ | refine GN_nil ?_ | refine GW_any rfl ?_ | refine Gp_nil ?_ | ((first | refine Gw_s fun K' hK' => ?_ | refine Gp_s fun K' hK' => ?_ | refine Gw_0 fun K' hK' => ?_ | intro K' hK'); (simp (disch := (first | (simp only [ints_length, List.length_set, List.length_cons, List.length_nil, List.length_replicate, len_put, len_add, lim_put, lim_add, flatV_int, flatV_bool, flatV_str, flatV_ptr, flatV_sl, List.all_cons, List.all_nil, Bool.and_self, List.size_toArray, Nat.reduceAdd, Nat.zero_add]; done) | omega | (simp only [ints_length, List.length_set, List.length_cons, List.length_nil, List.length_replicate, len_put, len_add, lim_put, lim_add, flatV_int, flatV_bool, flatV_str, flatV_ptr, flatV_sl, List.all_cons, List.all_nil, Bool.and_self, List.size_toArray, Nat.reduceAdd, Nat.zero_add] <;> omega) | fail)) only [↓gd_move, ↓gd_pick, ↓gd_alloc, ↓gd_load, ↓gd_bin, ↓gd_un, ↓gd_fa, ↓gd_ia, ↓gd_len, ↓gd_lenOf, ↓gd_store, ↓gd_ix, ↓gd_fld, ↓gd_cap, ↓gd_ext', ↓gd_conv, ↓gd_mk, ↓gd_app, ↓gd_copy, ↓gd_next, ↓gd_fn, ↓gd_min, ↓gd_max, ↓gd_slice, ↓gd_build, ↓gd_buildSl, ↓gd_box, ↓gd_nilc', ↓gd_rng, ↓gd_appM, ↓gM_move, ↓gM_pick, ↓gM_alloc, ↓gM_load, ↓gM_bin, ↓gM_un, ↓gM_fa, ↓gM_ia, ↓gM_len, ↓gM_lenOf, ↓gM_ix, ↓gM_fld, ↓gM_cap, ↓gM_ext, ↓gM_conv, ↓gM_mk, ↓gM_fn, ↓gM_min, ↓gM_max, ↓gM_slice, ↓gM_build, ↓gM_buildSl, ↓gM_box, ↓gM_nilc, ↓gM_rng, ↓gM_appM, ↓GArg.ev, ↓evs, ↓evOpt, ↓Tr.get_set, Option.bind_some, Option.map_some, add_none, gb_lss, gb_gtr, gb_leq, gb_geq, gb_add, gb_sub, gb_mul, gb_eql', gb_neq', gu_not, gu_neg, gfold_min1, gfold_max1, wr_i64, wr_i32, wr_u8, wr_u16, wr_u32, glen_sl, glen_str, gadd_ptr, gia_sl, gmake_sq, zeros_ints, zeros_sl, gld_1, gld_n, gst_1, gst_n, gset_ok, gsetn_all, rd_put_same, rd_put_ne, rd_add_eq, rd_add_ne, rdn_put_ne, rdn_add_ne, rdn_put_all, rdn_add_all, mine_put_same, mine_put_ne, mine_add_eq, mine_add_ne, len_put, len_add, lim_put, lim_add, ints_at, ints_set, ints_length, Option.map_map, List.getElem?_toArray, List.getElem?_cons_zero, List.getElem?_cons_succ, List.length_cons, List.length_nil, List.length_set, List.size_toArray, Int.toNat_natCast, Nat.mul_one, Nat.add_zero, Nat.zero_add, ite_true, ite_false, if_true, if_false, Bool.false_eq_true, ↓reduceIte, decide_true, decide_false, Bool.not_true, Bool.not_false, blk_sl, ofs_sl, Nat.reduceEqDiff, Nat.reduceAdd, Nat.reduceMul, reduceCtorEq, Int.reduceToNat, ↓evParts, fillL_1, fillL_0, List.replicate_zero, ints_nil, g28, f1, f2, f29, f30, f31, hsx.len, hsx.ia, hsl.len, hsl.ia, hbx, hbx0, hbI]; refine G1_go (hK' _ _ ?_); clear hK' K')) | ((first | refine Gw_dt fun A B C D hA hB hC hD => ?_ | refine Gw_df fun A B C D hA hB hC hD => ?_ | refine GW_cd fun A B C D hA hB hC hD => ?_); (simp only [↓Tr.get_set, Nat.reduceEqDiff, if_true, if_false, ↓reduceIte, g28, f1, f2, f29, f30, f31, hsx.len, hsx.ia, hsl.len, hsl.ia, hbx, hbx0, hbI]; first | (refine Gd_true (hA ?_); clear hA hB hC hD A B C D) | (refine Gd_false (hB ?_); clear hA hB hC hD A B C D) | (refine Gd_some (fun hc => hC ?_) (fun hc => hD ?_) <;> clear hA hB hC hD A B C D <;> (try simp only [decide_eq_true_eq, decide_eq_false_iff_not, Bool.not_eq_true', Bool.not_eq_false', Int.not_lt, Int.not_le, Bool.not_true, Bool.not_false, Bool.true_eq_false, Bool.false_eq_true, Decidable.not_not] at hc)))) | (refine GR.mk ?_; simp only [gresults, ↓Tr.get_set, Option.bind_some, Nat.reduceEqDiff, if_true, if_false, ↓reduceIte, gld_1, gld_n, g28, f1, f2, f29, f30, f31, hsx.len, hsx.ia, hsl.len, hsl.ia, hbx, hbx0, hbI]; refine ⟨_, rfl, ?_⟩; simp only [gone]))
  case refine_1.refine_1.refine_1 hc2 hc3 =>
    refine hPost _ _ ⟨?_, hS⟩
    rw [hF, if_pos (any_first (j := j) (by omega) ?_)]
    rw [offC, decide_eq_true hc]; rfl
  case refine_1.refine_1.refine_2.refine_1 hc2 hc3 hc4 =>
    refine hPost _ _ ⟨?_, hS⟩
    rw [hF, if_pos (any_first (j := j) (by omega) ?_)]
    rw [offC, decide_eq_true hc, Bool.or_true]
  case refine_1.refine_1.refine_2.refine_2 hc2 hc3 hc4 =>
    refine hJ _ _ ⟨cs.length - (j + 1), by omega, rfl, j + 1, by omega, rfl, ?_⟩
    simp only [↓Tr.get_set, Nat.reduceEqDiff, if_true, if_false, ↓reduceIte, Int.natCast_add, Int.cast_ofNat_Int, Int.natCast_zero, true_and, and_true, Option.some.injEq, Value.int.injEq, f1, f2, f29, f30]
    intro i hi
    rcases Nat.lt_succ_iff_lt_or_eq.1 hi with h | rfl
    · exact hEq i h
    · rw [offC, decide_eq_false (by omega), decide_eq_false (by omega)]; rfl
  case refine_1.refine_2 hc2 =>
  have hoff : cs.any (offC l.length) = false := any_none fun i hi => hEq i (by omega)
  rw [if_neg (by rw [hoff]; exact Bool.false_ne_true)] at hF
  have hcb : ∀ i, i < cs.length → 0 ≤ cs[i]! ∧ cs[i]! < l.length := fun i hi => by
    have := hEq i (by omega)
    simp only [offC, Bool.or_eq_false_iff, decide_eq_false_iff_not] at this
    omega
  refine GW_loop (fun k fr H2 => H1 = H2 ∧ ∃ (j : Nat) (a s : Int), j ≤ cs.length ∧ k = cs.length - j ∧ fr.get 1 = some (v) ∧ fr.get 2 = some (w) ∧ fr.get 10 = some (.int .i64 a) ∧ fr.get 11 = some (.int .i64 s) ∧ fr.get 51 = some (w) ∧ fr.get 52 = some (.int .i64 cs.length) ∧ fr.get 53 = some (.int .i64 j) ∧ -(j * 1099511627776) ≤ s ∧ s ≤ j * 1099511627776 ∧
    chainF (pickB l cs) (l[(cs[0]!).toNat]!).I 0 = chainF ((pickB l cs).drop j) a s) ?_ cs.length ?_
  case refine_2 =>
    refine ⟨rfl, 0, (l[(cs[0]!).toNat]!).I, 0, by omega, by omega, ?_⟩
    simp only [↓Tr.get_set, Nat.reduceEqDiff, if_true, if_false, ↓reduceIte, Int.natCast_add, Int.cast_ofNat_Int, Int.natCast_zero, true_and, and_true, Option.some.injEq, Value.int.injEq, f1, f2]
    exact ⟨by omega, by omega, rfl⟩
  rintro k fr H2 ⟨hHH, j, a, s, hj, rfl, f1, f2, f10, f11, f51, f52, f53, hs1, hs2, hch⟩ J2 hJ2
  subst hHH
  have hcj := fun h : j < cs.length => hcb j h
  have hst := fun h : j < cs.length => chain_step (bs := pickB l cs) (j := j) (by rw [pickB_len]; exact h) a s
  have hvb : j < cs.length → -1099511627776 ≤ l[(cs[j]!).toNat]!.C ∧ l[(cs[j]!).toNat]!.C ≤ 1099511627776 := fun h => by
    have := hcb j h
    have hk : (cs[j]!).toNat < l.length := by omega
    rw [getElem!_pos l _ hk]
    have := hV _ (List.getElem_mem hk)
    omega
  have hjj : (cs.length : Int) ≤ 512 := by omega
  have hbx0 : H1.rd (blk w) (ofs w) = some (.int .i64 cs[0]!) := hbx 0 (by omega)
  have hc00 := hcb 0 (by omega)
  repeat' (first | refine GW_seq ?_ | refine GW_line ?_ | refine Gw_nil ?_ | refine GN_seq ?_ | refine GN_blk ?_ | refine GW_block ?_ | refine GW_skip ?_ | refine GW_exit ?_ | refine GX_seq ?_ | refine GX_blk ?_ | refine GX_up rfl ?_ | refine GX_inv ?_ | refine GW_ret ?_ | refine GN_inv ?_ | refine GN_nil ?_ | refine GW_any rfl ?_ | refine Gp_nil ?_ | ((first | refine Gw_s fun K' hK' => ?_ | refine Gp_s fun K' hK' => ?_ | refine Gw_0 fun K' hK' => ?_ | intro K' hK'); (simp (disch := (first | (simp only [ints_length, List.length_set, List.length_cons, List.length_nil, List.length_replicate, len_put, len_add, lim_put, lim_add, flatV_int, flatV_bool, flatV_str, flatV_ptr, flatV_sl, List.all_cons, List.all_nil, Bool.and_self, List.size_toArray, Nat.reduceAdd, Nat.zero_add]; done) | omega | (simp only [ints_length, List.length_set, List.length_cons, List.length_nil, List.length_replicate, len_put, len_add, lim_put, lim_add, flatV_int, flatV_bool, flatV_str, flatV_ptr, flatV_sl, List.all_cons, List.all_nil, Bool.and_self, List.size_toArray, Nat.reduceAdd, Nat.zero_add] <;> omega) | fail)) only [↓gd_move, ↓gd_pick, ↓gd_alloc, ↓gd_load, ↓gd_bin, ↓gd_un, ↓gd_fa, ↓gd_ia, ↓gd_len, ↓gd_lenOf, ↓gd_store, ↓gd_ix, ↓gd_fld, ↓gd_cap, ↓gd_ext', ↓gd_conv, ↓gd_mk, ↓gd_app, ↓gd_copy, ↓gd_next, ↓gd_fn, ↓gd_min, ↓gd_max, ↓gd_slice, ↓gd_build, ↓gd_buildSl, ↓gd_box, ↓gd_nilc', ↓gd_rng, ↓gd_appM, ↓gM_move, ↓gM_pick, ↓gM_alloc, ↓gM_load, ↓gM_bin, ↓gM_un, ↓gM_fa, ↓gM_ia, ↓gM_len, ↓gM_lenOf, ↓gM_ix, ↓gM_fld, ↓gM_cap, ↓gM_ext, ↓gM_conv, ↓gM_mk, ↓gM_fn, ↓gM_min, ↓gM_max, ↓gM_slice, ↓gM_build, ↓gM_buildSl, ↓gM_box, ↓gM_nilc, ↓gM_rng, ↓gM_appM, ↓GArg.ev, ↓evs, ↓evOpt, ↓Tr.get_set, Option.bind_some, Option.map_some, add_none, gb_lss, gb_gtr, gb_leq, gb_geq, gb_add, gb_sub, gb_mul, gb_eql', gb_neq', gu_not, gu_neg, gfold_min1, gfold_max1, wr_i64, wr_i32, wr_u8, wr_u16, wr_u32, glen_sl, glen_str, gadd_ptr, gia_sl, gmake_sq, zeros_ints, zeros_sl, gld_1, gld_n, gst_1, gst_n, gset_ok, gsetn_all, rd_put_same, rd_put_ne, rd_add_eq, rd_add_ne, rdn_put_ne, rdn_add_ne, rdn_put_all, rdn_add_all, mine_put_same, mine_put_ne, mine_add_eq, mine_add_ne, len_put, len_add, lim_put, lim_add, ints_at, ints_set, ints_length, Option.map_map, List.getElem?_toArray, List.getElem?_cons_zero, List.getElem?_cons_succ, List.length_cons, List.length_nil, List.length_set, List.size_toArray, Int.toNat_natCast, Nat.mul_one, Nat.add_zero, Nat.zero_add, ite_true, ite_false, if_true, if_false, Bool.false_eq_true, ↓reduceIte, decide_true, decide_false, Bool.not_true, Bool.not_false, blk_sl, ofs_sl, Nat.reduceEqDiff, Nat.reduceAdd, Nat.reduceMul, reduceCtorEq, Int.reduceToNat, ↓evParts, fillL_1, fillL_0, List.replicate_zero, ints_nil, g28, f1, f2, f10, f11, f51, f52, f53, hsx.len, hsx.ia, hsl.len, hsl.ia, hbx, hbx0, hbI, hbJ, hbC]; refine G1_go (hK' _ _ ?_); clear hK' K')) | ((first | refine Gw_dt fun A B C D hA hB hC hD => ?_ | refine Gw_df fun A B C D hA hB hC hD => ?_ | refine GW_cd fun A B C D hA hB hC hD => ?_); (simp only [↓Tr.get_set, Nat.reduceEqDiff, if_true, if_false, ↓reduceIte, g28, f1, f2, f10, f11, f51, f52, f53, hsx.len, hsx.ia, hsl.len, hsl.ia, hbx, hbx0, hbI, hbJ, hbC]; first | (refine Gd_true (hA ?_); clear hA hB hC hD A B C D) | (refine Gd_false (hB ?_); clear hA hB hC hD A B C D) | (refine Gd_some (fun hc => hC ?_) (fun hc => hD ?_) <;> clear hA hB hC hD A B C D <;> (try simp only [decide_eq_true_eq, decide_eq_false_iff_not, Bool.not_eq_true', Bool.not_eq_false', Int.not_lt, Int.not_le, Bool.not_true, Bool.not_false, Bool.true_eq_false, Bool.false_eq_true, Decidable.not_not] at hc)))) | (refine GR.mk ?_; simp only [gresults, ↓Tr.get_set, Option.bind_some, Nat.reduceEqDiff, if_true, if_false, ↓reduceIte, gld_1, gld_n, g28, f1, f2, f10, f11, f51, f52, f53, hsx.len, hsx.ia, hsl.len, hsl.ia, hbx, hbx0, hbI, hbJ, hbC]; refine ⟨_, rfl, ?_⟩; simp only [gone]))
  case refine_1.refine_1.refine_1 h2 h3 =>
    refine hPost _ _ ⟨?_, hS⟩
    rw [hF, hch, hst (by omega), if_pos (by rw [pickB_at (by omega)]; exact hc)]
  case refine_1.refine_1.refine_2 h2 h3 =>
    have := hvb (by omega)
    refine hJ2 _ _ ⟨cs.length - (j + 1), by omega, rfl, j + 1, l[(cs[j]!).toNat]!.J, s + l[(cs[j]!).toNat]!.C, by omega, rfl, ?_⟩
    simp only [↓Tr.get_set, Nat.reduceEqDiff, if_true, if_false, ↓reduceIte, Int.natCast_add, Int.cast_ofNat_Int, Int.natCast_zero, true_and, and_true, Option.some.injEq, Value.int.injEq, f1, f2, f51, f52]
    refine ⟨by omega, by omega, ?_⟩
    rw [hch, hst (by omega), if_neg (by rw [pickB_at (by omega)]; exact fun h => h hc), pickB_at (by omega)]
  case refine_1.refine_2.refine_1 h2 h3 =>
    refine hPost _ _ ⟨?_, hS⟩
    rw [hF, hch, List.drop_eq_nil_of_le (by rw [pickB_len]; omega)]
    simp only [chainF]
    rw [if_pos hc]
  case refine_1.refine_2.refine_2.refine_1 h2 h3 h4 =>
    refine hPost _ _ ⟨?_, hS⟩
    rw [hF, hch, List.drop_eq_nil_of_le (by rw [pickB_len]; omega)]
    simp only [chainF]
    rw [if_neg (fun h => h h4), if_pos hc]
  case refine_1.refine_2.refine_2.refine_2 h2 h3 h4 =>
    refine hPost _ _ ⟨?_, hS⟩
    rw [hF, hch, List.drop_eq_nil_of_le (by rw [pickB_len]; omega)]
    simp only [chainF]
    rw [if_neg (fun h => h h4), if_neg (by omega)]
end Go.Gh
