/-
  As in charset's texts: the bytes of a character; utf8.AppendRune, walked.
-/
import Derived.Test.YtaemdlpikaakcaaDoorLtW7
namespace Go.Gh
set_option linter.unusedSimpArgs false
set_option linter.unusedVariables false
open Go.RowKit
set_option maxRecDepth 4000

/-- bytes in a new object, appended -/
theorem OS.appB {n : Nat} {H0 H : GHeap} {v : Value} {xs : List Value} (h : OS 1 257 H0 H v n xs) (l : List UInt8) (hb : n + l.length < 140737488355328) :
    ∃ v' H', gapp 1 1 257 (H.add (some (.cells (u8s l) 257 true))) v (.slice (some ⟨H.len, 0, none⟩) l.length (l.length + 1)) = some (v', H') ∧ OS 1 257 H0 H' v' (n + l.length) (xs ++ u8s l) ∧ But (fun j => j ∈ idOf v) H H' := by
  have hw := h.same.wf
  obtain ⟨v', H', e, h1, h2⟩ := (h.later ((Same.refl hw).add (.cells (u8s l) 257 true))).appN (by decide) (by decide) (OB.made (l := l) (Same.refl hw) rfl (l.length + 1) (.inr rfl)).rb (b := 1) (by omega) (by omega)
  exact ⟨v', H', e, h1, (But.of ((Same.refl hw).add _)).trans h2⟩

/-! ### the bytes of a character -/
def toL (b : ByteArray) : List UInt8 := b.data.toList
def encL (x : Nat) : List UInt8 := toL (Utf8.encode (x : Int))
theorem encL_toL (x : Nat) : encL x = toL (Utf8.encode (x : Int)) := rfl
def enc2 (x : Nat) : List UInt8 := [192 ||| UInt8.ofNat (x / 64), 128 ||| (UInt8.ofNat x &&& 63)]
def enc3 (x : Nat) : List UInt8 := [224 ||| UInt8.ofNat (x / 4096), 128 ||| (UInt8.ofNat (x / 64) &&& 63), 128 ||| (UInt8.ofNat x &&& 63)]
set_option maxRecDepth 100000 in
theorem enc_table : (REP.all fun x => encL x == (if x ≤ 127 then [UInt8.ofNat x] else if x ≤ 2047 then enc2 x else enc3 x)) = true := by kernel_rfl
theorem encL_eq {x : Nat} (hx : x ∈ REP) : encL x = if x ≤ 127 then [UInt8.ofNat x] else if x ≤ 2047 then enc2 x else enc3 x := by
  have := List.all_eq_true.1 enc_table x hx
  simpa using this
theorem encL_len {x : Nat} (hx : x ∈ REP) : (encL x).length ≤ 3 ∧ 1 ≤ (encL x).length := by
  rw [encL_eq hx]
  split
  · simp
  · split <;> simp [enc2, enc3]
theorem gb_or8 {e : Option EqK} {a b : UInt8} : gbin .or e (.int .u8 (a.toNat : Int)) (.int .u8 (b.toNat : Int)) = some (.int .u8 ((a ||| b).toNat : Int)) := by
  have : ∀ a b : UInt8, IntKind.u8.wrap ((BitVec.ofInt 8 (a.toNat : Int) ||| BitVec.ofInt 8 (b.toNat : Int)).toNat : Int) = ((a ||| b).toNat : Int) := by
    intro a b
    rw [bv_nat, bv_nat, BitVec.toNat_or, BitVec.toNat_ofNat, BitVec.toNat_ofNat, Nat.mod_eq_of_lt a.toNat_lt, Nat.mod_eq_of_lt b.toNat_lt, UInt8.toNat_or]
    have : a.toNat ||| b.toNat < 256 := Nat.or_lt_two_pow (n := 8) a.toNat_lt b.toNat_lt
    exact wr_u8 (by omega)
  simp only [gbin, gint, if_true]
  exact congrArg (fun n => some (Value.int .u8 n)) (this a b)
theorem gb_and8 {e : Option EqK} {a b : UInt8} : gbin .and e (.int .u8 (a.toNat : Int)) (.int .u8 (b.toNat : Int)) = some (.int .u8 ((a &&& b).toNat : Int)) := by
  have : ∀ a b : UInt8, IntKind.u8.wrap ((BitVec.ofInt 8 (a.toNat : Int) &&& BitVec.ofInt 8 (b.toNat : Int)).toNat : Int) = ((a &&& b).toNat : Int) := by
    intro a b
    rw [bv_nat, bv_nat, BitVec.toNat_and, BitVec.toNat_ofNat, BitVec.toNat_ofNat, Nat.mod_eq_of_lt a.toNat_lt, Nat.mod_eq_of_lt b.toNat_lt, UInt8.toNat_and]
    have : a.toNat &&& b.toNat < 256 := Nat.lt_of_le_of_lt Nat.and_le_left a.toNat_lt
    exact wr_u8 (by omega)
  simp only [gbin, gint, if_true]
  exact congrArg (fun n => some (Value.int .u8 n)) (this a b)
theorem or192 {e : Option EqK} {b : UInt8} : gbin .or e (.int .u8 192) (.int .u8 (b.toNat : Int)) = some (.int .u8 ((192 ||| b).toNat : Int)) := gb_or8 (a := 192)
theorem or128 {e : Option EqK} {b : UInt8} : gbin .or e (.int .u8 128) (.int .u8 (b.toNat : Int)) = some (.int .u8 ((128 ||| b).toNat : Int)) := gb_or8 (a := 128)
theorem or224 {e : Option EqK} {b : UInt8} : gbin .or e (.int .u8 224) (.int .u8 (b.toNat : Int)) = some (.int .u8 ((224 ||| b).toNat : Int)) := gb_or8 (a := 224)
theorem and63 {e : Option EqK} {b : UInt8} : gbin .and e (.int .u8 (b.toNat : Int)) (.int .u8 63) = some (.int .u8 ((b &&& 63).toNat : Int)) := gb_and8 (b := 63)
theorem u8n {b : Nat} (h : b < 256) : (b : Int) = ((UInt8.ofNat b).toNat : Int) := by rw [UInt8.toNat_ofNat', Nat.mod_eq_of_lt h]
theorem or192n {e : Option EqK} {b : Nat} (h : b < 256) : gbin .or e (.int .u8 192) (.int .u8 (b : Int)) = some (.int .u8 ((192 ||| UInt8.ofNat b).toNat : Int)) := by rw [u8n h]; exact or192
theorem or224n {e : Option EqK} {b : Nat} (h : b < 256) : gbin .or e (.int .u8 224) (.int .u8 (b : Int)) = some (.int .u8 ((224 ||| UInt8.ofNat b).toNat : Int)) := by rw [u8n h]; exact or224
theorem and63n {e : Option EqK} {b : Nat} (h : b < 256) : gbin .and e (.int .u8 (b : Int)) (.int .u8 63) = some (.int .u8 ((UInt8.ofNat b &&& 63).toNat : Int)) := by rw [u8n h]; exact and63
theorem sh6 {e : Option EqK} {k' : IntKind} {s : Nat} : gbin .shr e (.int .i32 (s : Int)) (.int k' 6) = some (.int .i32 ((s / 64 : Nat) : Int)) := gb_shr (s := 6) (by decide)
theorem sh12 {e : Option EqK} {k' : IntKind} {s : Nat} : gbin .shr e (.int .i32 (s : Int)) (.int k' 12) = some (.int .i32 ((s / 4096 : Nat) : Int)) := gb_shr (s := 12) (by decide)
theorem fillb1 {a : Int} : fillL (ints .u8 (List.replicate 1 0)) [(0, 1, .int .u8 a)] = some [.int .u8 a] := rfl
theorem fillb2 {a b : Int} : fillL (ints .u8 (List.replicate 2 0)) [(0, 1, .int .u8 a), (1, 1, .int .u8 b)] = some [.int .u8 a, .int .u8 b] := rfl
theorem fillb3 {a b c : Int} : fillL (ints .u8 (List.replicate 3 0)) [(0, 1, .int .u8 a), (1, 1, .int .u8 b), (2, 1, .int .u8 c)] = some [.int .u8 a, .int .u8 b, .int .u8 c] := rfl
theorem rep_le {x : Nat} (hx : x ∈ REP) : 32 ≤ x ∧ x ≤ 9834 := by
  have := List.all_eq_true.1 rep_range x hx
  simpa using this
theorem append_na {H0 H : GHeap} {v : Value} {n : Nat} {xs : List Value} (h : OS 1 257 H0 H v n xs) {x : Nat} (hx : x ∈ REP) (h127 : ¬ x ≤ 127) (hn : n < 140737488000000) :
    ∃ r H', gev G 54 [v, .int .i32 (x : Int)] H = some (r, H') ∧ (OS 1 257 H0 H' r (n + (encL x).length) (xs ++ u8s (encL x)) ∧ But (fun j => j ∈ idOf v) H H') := by
  refine gev_GW (f := 54) rfl fun Post hPost => ?_
  have hr := rep_le hx
  have he := encL_eq hx
  rw [if_neg h127] at he
  simp only [frameOf, Nat.reduceAdd]
  have hu := wrap_u32n (n := x) (by omega)
  by_cases h2 : x ≤ 2047
  · rw [if_pos h2] at he
    rw [he] at hPost
    repeat' (first | (exfalso; omega) | refine GW_seq ?_ | refine GW_line ?_ | refine Gw_nil ?_ | refine GN_seq ?_ | refine GN_blk ?_ | refine GW_block ?_ | refine GW_skip ?_ | refine GW_exit ?_ | refine GX_seq ?_ | refine GX_blk ?_ | refine GX_up rfl ?_ | refine GX_inv ?_ | refine GW_ret ?_ | refine GN_inv ?_ | refine GN_nil ?_ | refine GW_any rfl ?_ | refine Gp_nil ?_ | ((first | refine Gw_s fun K' hK' => ?_ | refine Gp_s fun K' hK' => ?_ | refine Gw_0 fun K' hK' => ?_ | intro K' hK'); (simp (disch := (first | (simp only [SD, SF, beq_self_eq_true, Nat.reduceLT, Nat.reduceAdd]; done) | ((fail_if_success (apply Bool.eq_iff_iff.2)); first | omega | (simp only [SD, SF, beq_self_eq_true, Nat.reduceLT, Nat.reduceAdd] <;> omega)) | fail)) only [↓SA, ↓GArg.ev, ↓evs, ↓evOpt, ↓evParts, ↓reduceIte, SB, SC, setL, if_true, if_false, Nat.reduceEqDiff, Nat.reduceAdd, Nat.reduceMul, reduceCtorEq, Int.reduceToNat, g54, hu, sh6, and63, and63n, or192, or192n, or128, wrap_u8n, fillb2]; refine G1_go (hK' _ _ ?_); clear hK' K')) | ((first | refine Gw_dt fun A B C D hA hB hC hD => ?_ | refine Gw_df fun A B C D hA hB hC hD => ?_ | refine GW_cd fun A B C D hA hB hC hD => ?_); (simp only [↓Tr.get_set, Nat.reduceEqDiff, if_true, if_false, ↓reduceIte, g54, hu, sh6, and63, and63n, or192, or192n, or128, wrap_u8n, fillb2]; first | (refine Gd_true (hA ?_); clear hA hB hC hD A B C D) | (refine Gd_false (hB ?_); clear hA hB hC hD A B C D) | (refine Gd_some (fun hc => hC ?_) (fun hc => hD ?_) <;> clear hA hB hC hD A B C D <;> (try simp only [decide_eq_true_eq, decide_eq_false_iff_not, Bool.not_eq_true', Bool.not_eq_false', Int.not_lt, Int.not_le, Bool.not_true, Bool.not_false, Bool.true_eq_false, Bool.false_eq_true, Decidable.not_not] at hc)))) | (refine Gw_u fun A hA => ?_; simp only [↓Tr.get_set, Nat.reduceEqDiff, if_true, if_false, ↓reduceIte, g54, hu, sh6, and63, and63n, or192, or192n, or128, wrap_u8n, fillb2]; refine Gu_mk (hA ?_); clear hA A) | (refine GR.mk ?_; simp only [gresults, ↓Tr.get_set, Option.bind_some, Nat.reduceEqDiff, if_true, if_false, ↓reduceIte, gld_1, gld_n, g54, hu, sh6, and63, and63n, or192, or192n, or128, wrap_u8n, fillb2]; refine ⟨_, rfl, ?_⟩; simp only [gone]))
    refine Gw_s fun K' hK' => ?_
    simp (disch := (first | (simp only [SD, SF, beq_self_eq_true, Nat.reduceLT, Nat.reduceAdd]; done) | ((fail_if_success (apply Bool.eq_iff_iff.2)); first | omega | (simp only [SD, SF, beq_self_eq_true, Nat.reduceLT, Nat.reduceAdd] <;> omega)) | fail)) only [↓SA, ↓GArg.ev, ↓evs, ↓evOpt, ↓evParts, ↓reduceIte, SB, SC, setL, if_true, if_false, Nat.reduceEqDiff, Nat.reduceAdd, Nat.reduceMul, reduceCtorEq, Int.reduceToNat]
    obtain ⟨v', H', e, hO, hB⟩ := h.appB (enc2 x) (by simp [enc2]; omega)
    refine G1_eq e (hK' _ _ ?_)
    clear hK' K' e
    repeat' (first | (exfalso; omega) | refine GW_seq ?_ | refine GW_line ?_ | refine Gw_nil ?_ | refine GN_seq ?_ | refine GN_blk ?_ | refine GW_block ?_ | refine GW_skip ?_ | refine GW_exit ?_ | refine GX_seq ?_ | refine GX_blk ?_ | refine GX_up rfl ?_ | refine GX_inv ?_ | refine GW_ret ?_ | refine GN_inv ?_ | refine GN_nil ?_ | refine GW_any rfl ?_ | refine Gp_nil ?_ | ((first | refine Gw_s fun K' hK' => ?_ | refine Gp_s fun K' hK' => ?_ | refine Gw_0 fun K' hK' => ?_ | intro K' hK'); (simp (disch := (first | (simp only [SD, SF, beq_self_eq_true, Nat.reduceLT, Nat.reduceAdd]; done) | ((fail_if_success (apply Bool.eq_iff_iff.2)); first | omega | (simp only [SD, SF, beq_self_eq_true, Nat.reduceLT, Nat.reduceAdd] <;> omega)) | fail)) only [↓SA, ↓GArg.ev, ↓evs, ↓evOpt, ↓evParts, ↓reduceIte, SB, SC, setL, if_true, if_false, Nat.reduceEqDiff, Nat.reduceAdd, Nat.reduceMul, reduceCtorEq, Int.reduceToNat, g54]; refine G1_go (hK' _ _ ?_); clear hK' K')) | ((first | refine Gw_dt fun A B C D hA hB hC hD => ?_ | refine Gw_df fun A B C D hA hB hC hD => ?_ | refine GW_cd fun A B C D hA hB hC hD => ?_); (simp only [↓Tr.get_set, Nat.reduceEqDiff, if_true, if_false, ↓reduceIte, g54]; first | (refine Gd_true (hA ?_); clear hA hB hC hD A B C D) | (refine Gd_false (hB ?_); clear hA hB hC hD A B C D) | (refine Gd_some (fun hc => hC ?_) (fun hc => hD ?_) <;> clear hA hB hC hD A B C D <;> (try simp only [decide_eq_true_eq, decide_eq_false_iff_not, Bool.not_eq_true', Bool.not_eq_false', Int.not_lt, Int.not_le, Bool.not_true, Bool.not_false, Bool.true_eq_false, Bool.false_eq_true, Decidable.not_not] at hc)))) | (refine Gw_u fun A hA => ?_; simp only [↓Tr.get_set, Nat.reduceEqDiff, if_true, if_false, ↓reduceIte, g54]; refine Gu_mk (hA ?_); clear hA A) | (refine GR.mk ?_; simp only [gresults, ↓Tr.get_set, Option.bind_some, Nat.reduceEqDiff, if_true, if_false, ↓reduceIte, gld_1, gld_n, g54]; refine ⟨_, rfl, ?_⟩; simp only [gone]))
    exact hPost _ _ ⟨hO, hB⟩
  · rw [if_neg h2] at he
    rw [he] at hPost
    have hd1 : decide ((x : Int) < 55296) = true := decide_eq_true (by omega)
    repeat' (first | (exfalso; omega) | refine GW_seq ?_ | refine GW_line ?_ | refine Gw_nil ?_ | refine GN_seq ?_ | refine GN_blk ?_ | refine GW_block ?_ | refine GW_skip ?_ | refine GW_exit ?_ | refine GX_seq ?_ | refine GX_blk ?_ | refine GX_up rfl ?_ | refine GX_inv ?_ | refine GW_ret ?_ | refine GN_inv ?_ | refine GN_nil ?_ | refine GW_any rfl ?_ | refine Gp_nil ?_ | ((first | refine Gw_s fun K' hK' => ?_ | refine Gp_s fun K' hK' => ?_ | refine Gw_0 fun K' hK' => ?_ | intro K' hK'); (simp (disch := (first | (simp only [SD, SF, beq_self_eq_true, Nat.reduceLT, Nat.reduceAdd]; done) | ((fail_if_success (apply Bool.eq_iff_iff.2)); first | omega | (simp only [SD, SF, beq_self_eq_true, Nat.reduceLT, Nat.reduceAdd] <;> omega)) | fail)) only [↓SA, ↓GArg.ev, ↓evs, ↓evOpt, ↓evParts, ↓reduceIte, SB, SC, setL, if_true, if_false, Nat.reduceEqDiff, Nat.reduceAdd, Nat.reduceMul, reduceCtorEq, Int.reduceToNat, g54, hu, hd1, sh6, sh12, and63, and63n, or224, or224n, or128, wrap_u8n, fillb3]; refine G1_go (hK' _ _ ?_); clear hK' K')) | ((first | refine Gw_dt fun A B C D hA hB hC hD => ?_ | refine Gw_df fun A B C D hA hB hC hD => ?_ | refine GW_cd fun A B C D hA hB hC hD => ?_); (simp only [↓Tr.get_set, Nat.reduceEqDiff, if_true, if_false, ↓reduceIte, g54, hu, hd1, sh6, sh12, and63, and63n, or224, or224n, or128, wrap_u8n, fillb3]; first | (refine Gd_true (hA ?_); clear hA hB hC hD A B C D) | (refine Gd_false (hB ?_); clear hA hB hC hD A B C D) | (refine Gd_some (fun hc => hC ?_) (fun hc => hD ?_) <;> clear hA hB hC hD A B C D <;> (try simp only [decide_eq_true_eq, decide_eq_false_iff_not, Bool.not_eq_true', Bool.not_eq_false', Int.not_lt, Int.not_le, Bool.not_true, Bool.not_false, Bool.true_eq_false, Bool.false_eq_true, Decidable.not_not] at hc)))) | (refine Gw_u fun A hA => ?_; simp only [↓Tr.get_set, Nat.reduceEqDiff, if_true, if_false, ↓reduceIte, g54, hu, hd1, sh6, sh12, and63, and63n, or224, or224n, or128, wrap_u8n, fillb3]; refine Gu_mk (hA ?_); clear hA A) | (refine GR.mk ?_; simp only [gresults, ↓Tr.get_set, Option.bind_some, Nat.reduceEqDiff, if_true, if_false, ↓reduceIte, gld_1, gld_n, g54, hu, hd1, sh6, sh12, and63, and63n, or224, or224n, or128, wrap_u8n, fillb3]; refine ⟨_, rfl, ?_⟩; simp only [gone]))
    refine Gw_s fun K' hK' => ?_
    simp (disch := (first | (simp only [SD, SF, beq_self_eq_true, Nat.reduceLT, Nat.reduceAdd]; done) | ((fail_if_success (apply Bool.eq_iff_iff.2)); first | omega | (simp only [SD, SF, beq_self_eq_true, Nat.reduceLT, Nat.reduceAdd] <;> omega)) | fail)) only [↓SA, ↓GArg.ev, ↓evs, ↓evOpt, ↓evParts, ↓reduceIte, SB, SC, setL, if_true, if_false, Nat.reduceEqDiff, Nat.reduceAdd, Nat.reduceMul, reduceCtorEq, Int.reduceToNat]
    obtain ⟨v', H', e, hO, hB⟩ := h.appB (enc3 x) (by simp [enc3]; omega)
    refine G1_eq e (hK' _ _ ?_)
    clear hK' K' e
    repeat' (first | (exfalso; omega) | refine GW_seq ?_ | refine GW_line ?_ | refine Gw_nil ?_ | refine GN_seq ?_ | refine GN_blk ?_ | refine GW_block ?_ | refine GW_skip ?_ | refine GW_exit ?_ | refine GX_seq ?_ | refine GX_blk ?_ | refine GX_up rfl ?_ | refine GX_inv ?_ | refine GW_ret ?_ | refine GN_inv ?_ | refine GN_nil ?_ | refine GW_any rfl ?_ | refine Gp_nil ?_ | ((first | refine Gw_s fun K' hK' => ?_ | refine Gp_s fun K' hK' => ?_ | refine Gw_0 fun K' hK' => ?_ | intro K' hK'); (simp (disch := (first | (simp only [SD, SF, beq_self_eq_true, Nat.reduceLT, Nat.reduceAdd]; done) | ((fail_if_success (apply Bool.eq_iff_iff.2)); first | omega | (simp only [SD, SF, beq_self_eq_true, Nat.reduceLT, Nat.reduceAdd] <;> omega)) | fail)) only [↓SA, ↓GArg.ev, ↓evs, ↓evOpt, ↓evParts, ↓reduceIte, SB, SC, setL, if_true, if_false, Nat.reduceEqDiff, Nat.reduceAdd, Nat.reduceMul, reduceCtorEq, Int.reduceToNat, g54]; refine G1_go (hK' _ _ ?_); clear hK' K')) | ((first | refine Gw_dt fun A B C D hA hB hC hD => ?_ | refine Gw_df fun A B C D hA hB hC hD => ?_ | refine GW_cd fun A B C D hA hB hC hD => ?_); (simp only [↓Tr.get_set, Nat.reduceEqDiff, if_true, if_false, ↓reduceIte, g54]; first | (refine Gd_true (hA ?_); clear hA hB hC hD A B C D) | (refine Gd_false (hB ?_); clear hA hB hC hD A B C D) | (refine Gd_some (fun hc => hC ?_) (fun hc => hD ?_) <;> clear hA hB hC hD A B C D <;> (try simp only [decide_eq_true_eq, decide_eq_false_iff_not, Bool.not_eq_true', Bool.not_eq_false', Int.not_lt, Int.not_le, Bool.not_true, Bool.not_false, Bool.true_eq_false, Bool.false_eq_true, Decidable.not_not] at hc)))) | (refine Gw_u fun A hA => ?_; simp only [↓Tr.get_set, Nat.reduceEqDiff, if_true, if_false, ↓reduceIte, g54]; refine Gu_mk (hA ?_); clear hA A) | (refine GR.mk ?_; simp only [gresults, ↓Tr.get_set, Option.bind_some, Nat.reduceEqDiff, if_true, if_false, ↓reduceIte, gld_1, gld_n, g54]; refine ⟨_, rfl, ?_⟩; simp only [gone]))
    exact hPost _ _ ⟨hO, hB⟩
theorem append_ok {H0 H : GHeap} {v : Value} {n : Nat} {xs : List Value} (h : OS 1 257 H0 H v n xs) {x : Nat} (hx : x ∈ REP) (hn : n < 140737488000000) :
    ∃ r H', gev G 47 [v, .int .i32 (x : Int)] H = some (r, H') ∧ (OS 1 257 H0 H' r (n + (encL x).length) (xs ++ u8s (encL x)) ∧ But (fun j => j ∈ idOf v) H H') := by
  refine gev_GW (f := 47) rfl fun Post hPost => ?_
  have hr := rep_le hx
  have he := encL_eq hx
  simp only [frameOf, Nat.reduceAdd]
  have hu := wrap_u32n (n := x) (by omega)
  by_cases h1 : x ≤ 127
  · rw [if_pos h1] at he
    rw [he] at hPost
    have hu8 : IntKind.u8.wrap (x : Int) = ((UInt8.ofNat x).toNat : Int) := wrap_u8n
    repeat' (first | (exfalso; omega) | refine GW_seq ?_ | refine GW_line ?_ | refine Gw_nil ?_ | refine GN_seq ?_ | refine GN_blk ?_ | refine GW_block ?_ | refine GW_skip ?_ | refine GW_exit ?_ | refine GX_seq ?_ | refine GX_blk ?_ | refine GX_up rfl ?_ | refine GX_inv ?_ | refine GW_ret ?_ | refine GN_inv ?_ | refine GN_nil ?_ | refine GW_any rfl ?_ | refine Gp_nil ?_ | ((first | refine Gw_s fun K' hK' => ?_ | refine Gp_s fun K' hK' => ?_ | refine Gw_0 fun K' hK' => ?_ | intro K' hK'); (simp (disch := (first | (simp only [SD, SF, beq_self_eq_true, Nat.reduceLT, Nat.reduceAdd]; done) | ((fail_if_success (apply Bool.eq_iff_iff.2)); first | omega | (simp only [SD, SF, beq_self_eq_true, Nat.reduceLT, Nat.reduceAdd] <;> omega)) | fail)) only [↓SA, ↓GArg.ev, ↓evs, ↓evOpt, ↓evParts, ↓reduceIte, SB, SC, setL, if_true, if_false, Nat.reduceEqDiff, Nat.reduceAdd, Nat.reduceMul, reduceCtorEq, Int.reduceToNat, g47, hu, fillb1]; refine G1_go (hK' _ _ ?_); clear hK' K')) | ((first | refine Gw_dt fun A B C D hA hB hC hD => ?_ | refine Gw_df fun A B C D hA hB hC hD => ?_ | refine GW_cd fun A B C D hA hB hC hD => ?_); (simp only [↓Tr.get_set, Nat.reduceEqDiff, if_true, if_false, ↓reduceIte, g47, hu, fillb1]; first | (refine Gd_true (hA ?_); clear hA hB hC hD A B C D) | (refine Gd_false (hB ?_); clear hA hB hC hD A B C D) | (refine Gd_some (fun hc => hC ?_) (fun hc => hD ?_) <;> clear hA hB hC hD A B C D <;> (try simp only [decide_eq_true_eq, decide_eq_false_iff_not, Bool.not_eq_true', Bool.not_eq_false', Int.not_lt, Int.not_le, Bool.not_true, Bool.not_false, Bool.true_eq_false, Bool.false_eq_true, Decidable.not_not] at hc)))) | (refine Gw_u fun A hA => ?_; simp only [↓Tr.get_set, Nat.reduceEqDiff, if_true, if_false, ↓reduceIte, g47, hu, fillb1]; refine Gu_mk (hA ?_); clear hA A) | (refine GR.mk ?_; simp only [gresults, ↓Tr.get_set, Option.bind_some, Nat.reduceEqDiff, if_true, if_false, ↓reduceIte, gld_1, gld_n, g47, hu, fillb1]; refine ⟨_, rfl, ?_⟩; simp only [gone]))
    have hcell : (u8s (List.replicate 1 0)).set 0 (.int .u8 (x : Int)) = u8s [UInt8.ofNat x] := by
      have : (UInt8.ofNat x).toNat = x := by rw [UInt8.toNat_ofNat']; omega
      simp [u8s, this]
    rw [hcell]
    refine Gw_s fun K' hK' => ?_
    simp (disch := (first | (simp only [SD, SF, beq_self_eq_true, Nat.reduceLT, Nat.reduceAdd]; done) | ((fail_if_success (apply Bool.eq_iff_iff.2)); first | omega | (simp only [SD, SF, beq_self_eq_true, Nat.reduceLT, Nat.reduceAdd] <;> omega)) | fail)) only [↓SA, ↓GArg.ev, ↓evs, ↓evOpt, ↓evParts, ↓reduceIte, SB, SC, setL, if_true, if_false, Nat.reduceEqDiff, Nat.reduceAdd, Nat.reduceMul, reduceCtorEq, Int.reduceToNat]
    obtain ⟨v', H', e, hO, hB⟩ := h.appB [UInt8.ofNat x] (by simp; omega)
    refine G1_eq e (hK' _ _ ?_)
    clear hK' K' e
    repeat' (first | (exfalso; omega) | refine GW_seq ?_ | refine GW_line ?_ | refine Gw_nil ?_ | refine GN_seq ?_ | refine GN_blk ?_ | refine GW_block ?_ | refine GW_skip ?_ | refine GW_exit ?_ | refine GX_seq ?_ | refine GX_blk ?_ | refine GX_up rfl ?_ | refine GX_inv ?_ | refine GW_ret ?_ | refine GN_inv ?_ | refine GN_nil ?_ | refine GW_any rfl ?_ | refine Gp_nil ?_ | ((first | refine Gw_s fun K' hK' => ?_ | refine Gp_s fun K' hK' => ?_ | refine Gw_0 fun K' hK' => ?_ | intro K' hK'); (simp (disch := (first | (simp only [SD, SF, beq_self_eq_true, Nat.reduceLT, Nat.reduceAdd]; done) | ((fail_if_success (apply Bool.eq_iff_iff.2)); first | omega | (simp only [SD, SF, beq_self_eq_true, Nat.reduceLT, Nat.reduceAdd] <;> omega)) | fail)) only [↓SA, ↓GArg.ev, ↓evs, ↓evOpt, ↓evParts, ↓reduceIte, SB, SC, setL, if_true, if_false, Nat.reduceEqDiff, Nat.reduceAdd, Nat.reduceMul, reduceCtorEq, Int.reduceToNat, g47]; refine G1_go (hK' _ _ ?_); clear hK' K')) | ((first | refine Gw_dt fun A B C D hA hB hC hD => ?_ | refine Gw_df fun A B C D hA hB hC hD => ?_ | refine GW_cd fun A B C D hA hB hC hD => ?_); (simp only [↓Tr.get_set, Nat.reduceEqDiff, if_true, if_false, ↓reduceIte, g47]; first | (refine Gd_true (hA ?_); clear hA hB hC hD A B C D) | (refine Gd_false (hB ?_); clear hA hB hC hD A B C D) | (refine Gd_some (fun hc => hC ?_) (fun hc => hD ?_) <;> clear hA hB hC hD A B C D <;> (try simp only [decide_eq_true_eq, decide_eq_false_iff_not, Bool.not_eq_true', Bool.not_eq_false', Int.not_lt, Int.not_le, Bool.not_true, Bool.not_false, Bool.true_eq_false, Bool.false_eq_true, Decidable.not_not] at hc)))) | (refine Gw_u fun A hA => ?_; simp only [↓Tr.get_set, Nat.reduceEqDiff, if_true, if_false, ↓reduceIte, g47]; refine Gu_mk (hA ?_); clear hA A) | (refine GR.mk ?_; simp only [gresults, ↓Tr.get_set, Option.bind_some, Nat.reduceEqDiff, if_true, if_false, ↓reduceIte, gld_1, gld_n, g47]; refine ⟨_, rfl, ?_⟩; simp only [gone]))
    exact hPost _ _ ⟨hO, hB⟩
  · repeat' (first | (exfalso; omega) | refine GW_seq ?_ | refine GW_line ?_ | refine Gw_nil ?_ | refine GN_seq ?_ | refine GN_blk ?_ | refine GW_block ?_ | refine GW_skip ?_ | refine GW_exit ?_ | refine GX_seq ?_ | refine GX_blk ?_ | refine GX_up rfl ?_ | refine GX_inv ?_ | refine GW_ret ?_ | refine GN_inv ?_ | refine GN_nil ?_ | refine GW_any rfl ?_ | refine Gp_nil ?_ | ((first | refine Gw_s fun K' hK' => ?_ | refine Gp_s fun K' hK' => ?_ | refine Gw_0 fun K' hK' => ?_ | intro K' hK'); (simp (disch := (first | (simp only [SD, SF, beq_self_eq_true, Nat.reduceLT, Nat.reduceAdd]; done) | ((fail_if_success (apply Bool.eq_iff_iff.2)); first | omega | (simp only [SD, SF, beq_self_eq_true, Nat.reduceLT, Nat.reduceAdd] <;> omega)) | fail)) only [↓SA, ↓GArg.ev, ↓evs, ↓evOpt, ↓evParts, ↓reduceIte, SB, SC, setL, if_true, if_false, Nat.reduceEqDiff, Nat.reduceAdd, Nat.reduceMul, reduceCtorEq, Int.reduceToNat, g47, hu]; refine G1_go (hK' _ _ ?_); clear hK' K')) | ((first | refine Gw_dt fun A B C D hA hB hC hD => ?_ | refine Gw_df fun A B C D hA hB hC hD => ?_ | refine GW_cd fun A B C D hA hB hC hD => ?_); (simp only [↓Tr.get_set, Nat.reduceEqDiff, if_true, if_false, ↓reduceIte, g47, hu]; first | (refine Gd_true (hA ?_); clear hA hB hC hD A B C D) | (refine Gd_false (hB ?_); clear hA hB hC hD A B C D) | (refine Gd_some (fun hc => hC ?_) (fun hc => hD ?_) <;> clear hA hB hC hD A B C D <;> (try simp only [decide_eq_true_eq, decide_eq_false_iff_not, Bool.not_eq_true', Bool.not_eq_false', Int.not_lt, Int.not_le, Bool.not_true, Bool.not_false, Bool.true_eq_false, Bool.false_eq_true, Decidable.not_not] at hc)))) | (refine Gw_u fun A hA => ?_; simp only [↓Tr.get_set, Nat.reduceEqDiff, if_true, if_false, ↓reduceIte, g47, hu]; refine Gu_mk (hA ?_); clear hA A) | (refine GR.mk ?_; simp only [gresults, ↓Tr.get_set, Option.bind_some, Nat.reduceEqDiff, if_true, if_false, ↓reduceIte, gld_1, gld_n, g47, hu]; refine ⟨_, rfl, ?_⟩; simp only [gone]))
    refine Gw_s fun K' hK' => G1_call (by simp only [gtarget, ↓GArg.ev, ↓evs, ↓Tr.get_set, Nat.reduceEqDiff, if_true, if_false, ↓reduceIte, Option.map_some]; rfl) (append_na h hx h1 hn) fun r2 H2 hq => hK' _ _ ?_
    repeat' (first | (exfalso; omega) | refine GW_seq ?_ | refine GW_line ?_ | refine Gw_nil ?_ | refine GN_seq ?_ | refine GN_blk ?_ | refine GW_block ?_ | refine GW_skip ?_ | refine GW_exit ?_ | refine GX_seq ?_ | refine GX_blk ?_ | refine GX_up rfl ?_ | refine GX_inv ?_ | refine GW_ret ?_ | refine GN_inv ?_ | refine GN_nil ?_ | refine GW_any rfl ?_ | refine Gp_nil ?_ | ((first | refine Gw_s fun K' hK' => ?_ | refine Gp_s fun K' hK' => ?_ | refine Gw_0 fun K' hK' => ?_ | intro K' hK'); (simp (disch := (first | (simp only [SD, SF, beq_self_eq_true, Nat.reduceLT, Nat.reduceAdd]; done) | ((fail_if_success (apply Bool.eq_iff_iff.2)); first | omega | (simp only [SD, SF, beq_self_eq_true, Nat.reduceLT, Nat.reduceAdd] <;> omega)) | fail)) only [↓SA, ↓GArg.ev, ↓evs, ↓evOpt, ↓evParts, ↓reduceIte, SB, SC, setL, if_true, if_false, Nat.reduceEqDiff, Nat.reduceAdd, Nat.reduceMul, reduceCtorEq, Int.reduceToNat, g47]; refine G1_go (hK' _ _ ?_); clear hK' K')) | ((first | refine Gw_dt fun A B C D hA hB hC hD => ?_ | refine Gw_df fun A B C D hA hB hC hD => ?_ | refine GW_cd fun A B C D hA hB hC hD => ?_); (simp only [↓Tr.get_set, Nat.reduceEqDiff, if_true, if_false, ↓reduceIte, g47]; first | (refine Gd_true (hA ?_); clear hA hB hC hD A B C D) | (refine Gd_false (hB ?_); clear hA hB hC hD A B C D) | (refine Gd_some (fun hc => hC ?_) (fun hc => hD ?_) <;> clear hA hB hC hD A B C D <;> (try simp only [decide_eq_true_eq, decide_eq_false_iff_not, Bool.not_eq_true', Bool.not_eq_false', Int.not_lt, Int.not_le, Bool.not_true, Bool.not_false, Bool.true_eq_false, Bool.false_eq_true, Decidable.not_not] at hc)))) | (refine Gw_u fun A hA => ?_; simp only [↓Tr.get_set, Nat.reduceEqDiff, if_true, if_false, ↓reduceIte, g47]; refine Gu_mk (hA ?_); clear hA A) | (refine GR.mk ?_; simp only [gresults, ↓Tr.get_set, Option.bind_some, Nat.reduceEqDiff, if_true, if_false, ↓reduceIte, gld_1, gld_n, g47]; refine ⟨_, rfl, ?_⟩; simp only [gone]))
    exact hPost _ _ hq
/-- the string of characters, "" if one is not in the repertoire -/
def ofB (l : List Int) : List UInt8 := if (l.all fun r => decide (0 ≤ idxN r)) = true then l.flatMap fun r => encL r.toNat else []
def encs' (l : List Int) : List UInt8 := l.flatMap fun r => encL r.toNat
theorem ofB_bad {l : List Int} {r : Int} (hr : r ∈ l) (h : idxN r < 0) : ofB l = [] := by
  unfold ofB
  rw [if_neg]
  intro hh
  have := List.all_eq_true.1 hh r hr
  simp only [decide_eq_true_eq] at this
  omega
theorem ofB_all {l : List Int} (h : ∀ r ∈ l, 0 ≤ idxN r) : ofB l = encs' l := by
  unfold ofB
  rw [if_pos (List.all_eq_true.2 fun r hr => decide_eq_true (h r hr))]; rfl
theorem encs'_take {l : List Int} {j : Nat} (h : j < l.length) : encs' (l.take (j + 1)) = encs' (l.take j) ++ encL (l[j]!).toNat := by
  rw [encs', List.take_succ_eq_append_getElem h, List.flatMap_append, getElem!_pos l j h]
  simp [encs']
theorem encs'_le {l : List Int} (h : ∀ r ∈ l, 0 ≤ idxN r) : (encs' l).length ≤ 3 * l.length := by
  induction l with
  | nil => simp [encs']
  | cons r l ih =>
    have h1 := ih fun x hx => h x (by simp [hx])
    obtain ⟨x, hx, hxr⟩ := idx_mem (r := r) (by have := h r (by simp); omega)
    have h2 := (encL_len hx).1
    have h3 : r.toNat = x := by omega
    simp only [encs', List.flatMap_cons, List.length_append, List.length_cons, h3] at h1 ⊢
    omega
theorem wf_i32' {n : Int} (h : (Lit.int .i32 n).wf = true) : -2147483648 ≤ n ∧ n ≤ 2147483647 := by
  simpa [Lit.wf, IntKind.min, IntKind.max, IntKind.signed, IntKind.bits] using h
theorem i32s {l : List Int} (h : ∀ n ∈ l, (Lit.int .i32 n).wf = true) : ∀ n ∈ l, -2147483648 ≤ n ∧ n ≤ 2147483647 := fun n hn => wf_i32' (h n hn)
end Go.Gh
