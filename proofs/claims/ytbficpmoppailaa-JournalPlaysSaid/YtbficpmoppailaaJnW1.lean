/-
  The checksum and numbers as bytes, walked: Update, Sum, Seal, Open, low, number, of the code and of the reference.
-/
import Derived.Test.YtbficpmoppailaaJnG
import Derived.Test.YtbficpmoppailaaJnF
namespace Go.Gh
set_option linter.unusedSimpArgs false
set_option linter.unusedVariables false
set_option maxHeartbeats 4000000
open Go.RowKit
set_option maxRecDepth 4000

theorem stepN_eq1 {x : Nat} (h : x &&& 1 = 1) : stepN x = x / 2 ^^^ 2197175160 := by
  have : x.testBit 0 = true := by rw [Nat.testBit_zero]; rw [Nat.and_one_is_mod] at h; simpa using h
  rw [stepN, this, if_pos rfl, Nat.shiftRight_eq_div_pow]; rfl
theorem stepN_eq0 {x : Nat} (h : ¬ x &&& 1 = 1) : stepN x = x / 2 := by
  have : x.testBit 0 = false := by rw [Nat.testBit_zero]; rw [Nat.and_one_is_mod] at h; simpa using h
  rw [stepN, this, if_neg (by decide), Nat.shiftRight_eq_div_pow, Nat.xor_zero]
theorem crcN_eq (xs : List UInt8) : 4294967295 ^^^ regN (4294967295 ^^^ 0) xs = crcN xs := by
  rw [Nat.xor_zero]; rfl
theorem regN_take0 (r : Nat) (xs : List UInt8) : regN r (xs.take 0) = r := by simp [regN]
theorem upd_ok {H : GHeap} {v : Value} {xs : List UInt8} (hv : RB H v xs) (hl : xs.length < 70368744177664) {s : Nat} (hs : s < 4294967296) :
    ∃ r H', gev G 61 [.int .u32 s, v] H = some (r, H') ∧ (r = .int .u32 ((4294967295 ^^^ regN (4294967295 ^^^ s) xs : Nat) : Int) ∧ H' = H) := by
  refine gev_GW (f := 61) rfl fun Post hPost => ?_
  have hsl := hv.isSl
  have hg := gu_xor32 hs
  simp only [frameOf, Nat.reduceAdd]
  repeat' (first | refine zn ?_ | refine zK rfl ?_ | refine zP rfl ?_ | ((first | refine zm ?_ | skip); intro _; intros; simp (disch := first | exact zd | fail) only [↓yS, yT, gresults, gone, ↓reduceIte, Nat.reduceEqDiff, Nat.reduceAdd, Nat.reduceMul, reduceCtorEq, Int.reduceToNat, g61, hsl.len, hg]; first | (rename_i K k; (first | refine yC (k _ _ ?_) | refine zg (k _ ?_)); clear k K) | (rename_i A B C D a b c d; (first | refine zx (a ?_) | refine zy (b ?_) | refine zz (fun hc => c ?_) (fun hc => d ?_) | refine zv (b ?_) | refine zw (a ?_)) <;> clear a b c d A B C D <;> try simp only [yL] at hc)) | refine zA ?_ | refine zB ?_ | refine zF ?_)
  refine GW_loop (fun k fr H1 => ∃ (j : Nat), j ≤ xs.length ∧ k = xs.length - j ∧ fr.get 5 = some (.int .u32 ((regN (4294967295 ^^^ s) (xs.take j) : Nat) : Int)) ∧ fr.get 11 = some (v) ∧ fr.get 12 = some (.int .i64 xs.length) ∧ fr.get 13 = some (.int .i64 j) ∧ H1 = H) ?_ xs.length ?_
  case refine_2 =>
    refine ⟨0, by omega, by omega, ?_⟩
    simp only [↓yG, Nat.reduceEqDiff, ↓reduceIte, Int.natCast_add, Int.cast_ofNat_Int, Int.natCast_zero, true_and, and_true, Option.some.injEq, Value.int.injEq, regN_take0]
  rintro k fr H1 ⟨j, hj, rfl, f5, f11, f12, f13, rfl⟩ J hJ
  generalize hR : regN (4294967295 ^^^ s) (xs.take j) = R at f5
  have hRl : R < 4294967296 := by rw [← hR]; exact regN_lt _ _ (Nat.xor_lt_two_pow (n := 32) (by decide) hs)
  have hbd : ∀ k : Nat, k < xs.length → H1.rd (blk v) (ofs v + k) = some (.int .u8 xs[k]!.toNat) := fun k hk => hv.read hk
  have hb32 : xs[j]!.toNat < 4294967296 := Nat.lt_trans xs[j]!.toNat_lt (by decide)
  have hx1 := fun e => gb_xor32 (e := e) hRl hb32
  have hx2 := gu_xor32 hRl
  have hXl : R ^^^ xs[j]!.toNat < 4294967296 := Nat.xor_lt_two_pow (n := 32) hRl hb32
  generalize hX : R ^^^ xs[j]!.toNat = X at hXl hx1
  repeat' (first | refine zn ?_ | refine zK rfl ?_ | refine zP rfl ?_ | ((first | refine zm ?_ | skip); intro _; intros; simp (disch := first | exact zd | fail) only [↓yS, yT, gresults, gone, ↓reduceIte, Nat.reduceEqDiff, Nat.reduceAdd, Nat.reduceMul, reduceCtorEq, Int.reduceToNat, g61, f5, f11, f12, f13, hsl.len, hsl.ia, hbd, gcv_int, u32_byte, hx1, hx2]; first | (rename_i K k; (first | refine yC (k _ _ ?_) | refine zg (k _ ?_)); clear k K) | (rename_i A B C D a b c d; (first | refine zx (a ?_) | refine zy (b ?_) | refine zz (fun hc => c ?_) (fun hc => d ?_) | refine zv (b ?_) | refine zw (a ?_)) <;> clear a b c d A B C D <;> try simp only [yL] at hc)) | refine zA ?_ | refine zB ?_ | refine zF ?_)
  case refine_1.refine_2 =>
    refine hPost _ _ ⟨?_, rfl⟩
    rw [← hR, List.take_of_length_le (by omega)]
  case refine_1.refine_1 =>
  refine GW_loop (fun k fr H2 => ∃ (i : Nat), i ≤ 8 ∧ k = 8 - i ∧ fr.get 5 = some (.int .u32 ((stepn i X : Nat) : Int)) ∧ fr.get 11 = some (v) ∧ fr.get 12 = some (.int .i64 xs.length) ∧ fr.get 13 = some (.int .i64 j) ∧ fr.get 21 = some (.int .i64 i) ∧ H2 = H1) ?_ 8 ?_
  case refine_2 =>
    refine ⟨0, by omega, by omega, ?_⟩
    simp only [↓yG, Nat.reduceEqDiff, ↓reduceIte, Int.natCast_add, Int.cast_ofNat_Int, Int.natCast_zero, true_and, and_true, Option.some.injEq, Value.int.injEq, f11, f12, f13, stepn]
  rintro k fr H2 ⟨i, hi, rfl, f5, f11, f12, f13, f21, rfl⟩ J2 hJ2
  generalize hY : stepn i X = Y at f5
  have hYl : Y < 4294967296 := by rw [← hY]; exact stepn_lt _ hXl
  have hy1 : ∀ e, gbin .and e (.int .u32 (Y : Int)) (.int .u32 1) = some (.int .u32 ((Y &&& 1 : Nat) : Int)) := fun e => gb_and32 (b := 1) hYl (by decide)
  have hy2 : ∀ e k', gbin .shr e (.int .u32 (Y : Int)) (.int k' 1) = some (.int .u32 ((Y / 2 : Nat) : Int)) := fun e k' => gb_shr (s := 1) (by decide)
  have hy3 : ∀ e, gbin .xor e (.int .u32 ((Y / 2 : Nat) : Int)) (.int .u32 2197175160) = some (.int .u32 ((Y / 2 ^^^ 2197175160 : Nat) : Int)) := fun e => gb_xor32 (b := 2197175160) (by omega) (by decide)
  repeat' (first | refine zn ?_ | refine zK rfl ?_ | refine zP rfl ?_ | ((first | refine zm ?_ | skip); intro _; intros; simp (disch := first | exact zd | fail) only [↓yS, yT, gresults, gone, ↓reduceIte, Nat.reduceEqDiff, Nat.reduceAdd, Nat.reduceMul, reduceCtorEq, Int.reduceToNat, g61, f5, f11, f12, f13, f21, hy1, hy2, hy3]; first | (rename_i K k; (first | refine yC (k _ _ ?_) | refine zg (k _ ?_)); clear k K) | (rename_i A B C D a b c d; (first | refine zx (a ?_) | refine zy (b ?_) | refine zz (fun hc => c ?_) (fun hc => d ?_) | refine zv (b ?_) | refine zw (a ?_)) <;> clear a b c d A B C D <;> try simp only [yL] at hc)) | refine zA ?_ | refine zB ?_ | refine zF ?_)
  case refine_1.refine_1.refine_1 =>
    refine hJ2 _ _ ⟨8 - (i + 1), by omega, i + 1, by omega, rfl, ?_⟩
    have : stepn (i + 1) X = Y / 2 ^^^ 2197175160 := by rw [stepn_succ, hY, stepN_eq1 (by omega)]
    simp only [↓yG, Nat.reduceEqDiff, ↓reduceIte, Int.natCast_add, Int.cast_ofNat_Int, Int.natCast_zero, true_and, and_true, Option.some.injEq, Value.int.injEq, f11, f12, f13, this]
  case refine_1.refine_1.refine_2 =>
    refine hJ2 _ _ ⟨8 - (i + 1), by omega, i + 1, by omega, rfl, ?_⟩
    have : stepn (i + 1) X = Y / 2 := by rw [stepn_succ, hY, stepN_eq0 (by omega)]
    simp only [↓yG, Nat.reduceEqDiff, ↓reduceIte, Int.natCast_add, Int.cast_ofNat_Int, Int.natCast_zero, true_and, and_true, Option.some.injEq, Value.int.injEq, f11, f12, f13, this]
  case refine_1.refine_2 =>
    refine hJ _ _ ⟨xs.length - (j + 1), by omega, j + 1, by omega, rfl, ?_⟩
    obtain rfl : i = 8 := by omega
    have : regN (4294967295 ^^^ s) (xs.take (j + 1)) = Y := by
      rw [List.take_succ_eq_append_getElem (by omega), regN_snoc, hR, ← getElem!_pos xs j (by omega), hX, hY]
    simp only [↓yG, Nat.reduceEqDiff, ↓reduceIte, Int.natCast_add, Int.cast_ofNat_Int, Int.natCast_zero, true_and, and_true, Option.some.injEq, Value.int.injEq, f5, f11, f12, this]
theorem sum_ok {H : GHeap} {v : Value} {xs : List UInt8} (hv : RB H v xs) (hl : xs.length < 70368744177664) :
    ∃ r H', gev G 53 [v] H = some (r, H') ∧ (r = .int .u32 ((crcN xs : Nat) : Int) ∧ H' = H) := by
  refine gev_GW (f := 53) rfl fun Post hPost => ?_
  have hc := upd_ok hv hl (s := 0) (by decide)
  rw [crcN_eq] at hc
  simp only [frameOf, Nat.reduceAdd]
  repeat' (first | refine zn ?_ | refine zK rfl ?_ | refine zP rfl ?_ | ((first | refine zm ?_ | skip); intro _; intros; simp (disch := first | exact zd | fail) only [↓yS, yT, gresults, gone, ↓reduceIte, Nat.reduceEqDiff, Nat.reduceAdd, Nat.reduceMul, reduceCtorEq, Int.reduceToNat, g53]; first | (rename_i K k; (first | refine yC (k _ _ ?_) | refine zg (k _ ?_)); clear k K) | (rename_i A B C D a b c d; (first | refine zx (a ?_) | refine zy (b ?_) | refine zz (fun hc => c ?_) (fun hc => d ?_) | refine zv (b ?_) | refine zw (a ?_)) <;> clear a b c d A B C D <;> try simp only [yL] at hc)) | refine zA ?_ | refine zB ?_ | refine zF ?_)
  refine Gw_s fun K' hK' => G1_call (by simp only [gtarget, ↓GArg.ev, ↓evs, ↓Tr.get_set, Nat.reduceEqDiff, if_true, if_false, ↓reduceIte, Option.map_some]; rfl) (hc) fun r' H' hq => hK' _ _ ?_
  obtain ⟨rfl, rfl⟩ := hq
  repeat' (first | refine zn ?_ | refine zK rfl ?_ | refine zP rfl ?_ | ((first | refine zm ?_ | skip); intro _; intros; simp (disch := first | exact zd | fail) only [↓yS, yT, gresults, gone, ↓reduceIte, Nat.reduceEqDiff, Nat.reduceAdd, Nat.reduceMul, reduceCtorEq, Int.reduceToNat, g53]; first | (rename_i K k; (first | refine yC (k _ _ ?_) | refine zg (k _ ?_)); clear k K) | (rename_i A B C D a b c d; (first | refine zx (a ?_) | refine zy (b ?_) | refine zz (fun hc => c ?_) (fun hc => d ?_) | refine zv (b ?_) | refine zw (a ?_)) <;> clear a b c d A B C D <;> try simp only [yL] at hc)) | refine zA ?_ | refine zB ?_ | refine zF ?_)
  exact hPost _ _ ⟨rfl, rfl⟩
theorem rupd_ok {H : GHeap} {v : Value} {xs : List UInt8} (hv : RB H v xs) (hl : xs.length < 70368744177664) {s : Nat} (hs : s < 4294967296) :
    ∃ r H', gev G 63 [.int .u32 s, v] H = some (r, H') ∧ (r = .int .u32 ((4294967295 ^^^ regN (4294967295 ^^^ s) xs : Nat) : Int) ∧ H' = H) := by
  refine gev_GW (f := 63) rfl fun Post hPost => ?_
  have hsl := hv.isSl
  have hg := gu_xor32 hs
  simp only [frameOf, Nat.reduceAdd]
  repeat' (first | refine zn ?_ | refine zK rfl ?_ | refine zP rfl ?_ | ((first | refine zm ?_ | skip); intro _; intros; simp (disch := first | exact zd | fail) only [↓yS, yT, gresults, gone, ↓reduceIte, Nat.reduceEqDiff, Nat.reduceAdd, Nat.reduceMul, reduceCtorEq, Int.reduceToNat, g63, hsl.len, hg]; first | (rename_i K k; (first | refine yC (k _ _ ?_) | refine zg (k _ ?_)); clear k K) | (rename_i A B C D a b c d; (first | refine zx (a ?_) | refine zy (b ?_) | refine zz (fun hc => c ?_) (fun hc => d ?_) | refine zv (b ?_) | refine zw (a ?_)) <;> clear a b c d A B C D <;> try simp only [yL] at hc)) | refine zA ?_ | refine zB ?_ | refine zF ?_)
  refine GW_loop (fun k fr H1 => ∃ (j : Nat), j ≤ xs.length ∧ k = xs.length - j ∧ fr.get 5 = some (.int .u32 ((regN (4294967295 ^^^ s) (xs.take j) : Nat) : Int)) ∧ fr.get 11 = some (v) ∧ fr.get 12 = some (.int .i64 xs.length) ∧ fr.get 13 = some (.int .i64 j) ∧ H1 = H) ?_ xs.length ?_
  case refine_2 =>
    refine ⟨0, by omega, by omega, ?_⟩
    simp only [↓yG, Nat.reduceEqDiff, ↓reduceIte, Int.natCast_add, Int.cast_ofNat_Int, Int.natCast_zero, true_and, and_true, Option.some.injEq, Value.int.injEq, regN_take0]
  rintro k fr H1 ⟨j, hj, rfl, f5, f11, f12, f13, rfl⟩ J hJ
  generalize hR : regN (4294967295 ^^^ s) (xs.take j) = R at f5
  have hRl : R < 4294967296 := by rw [← hR]; exact regN_lt _ _ (Nat.xor_lt_two_pow (n := 32) (by decide) hs)
  have hbd : ∀ k : Nat, k < xs.length → H1.rd (blk v) (ofs v + k) = some (.int .u8 xs[k]!.toNat) := fun k hk => hv.read hk
  have hb32 : xs[j]!.toNat < 4294967296 := Nat.lt_trans xs[j]!.toNat_lt (by decide)
  have hx1 := fun e => gb_xor32 (e := e) hRl hb32
  have hx2 := gu_xor32 hRl
  have hXl : R ^^^ xs[j]!.toNat < 4294967296 := Nat.xor_lt_two_pow (n := 32) hRl hb32
  generalize hX : R ^^^ xs[j]!.toNat = X at hXl hx1
  repeat' (first | refine zn ?_ | refine zK rfl ?_ | refine zP rfl ?_ | ((first | refine zm ?_ | skip); intro _; intros; simp (disch := first | exact zd | fail) only [↓yS, yT, gresults, gone, ↓reduceIte, Nat.reduceEqDiff, Nat.reduceAdd, Nat.reduceMul, reduceCtorEq, Int.reduceToNat, g63, f5, f11, f12, f13, hsl.len, hsl.ia, hbd, gcv_int, u32_byte, hx1, hx2]; first | (rename_i K k; (first | refine yC (k _ _ ?_) | refine zg (k _ ?_)); clear k K) | (rename_i A B C D a b c d; (first | refine zx (a ?_) | refine zy (b ?_) | refine zz (fun hc => c ?_) (fun hc => d ?_) | refine zv (b ?_) | refine zw (a ?_)) <;> clear a b c d A B C D <;> try simp only [yL] at hc)) | refine zA ?_ | refine zB ?_ | refine zF ?_)
  case refine_1.refine_2 =>
    refine hPost _ _ ⟨?_, rfl⟩
    rw [← hR, List.take_of_length_le (by omega)]
  case refine_1.refine_1 =>
  refine GW_loop (fun k fr H2 => ∃ (i : Nat), i ≤ 8 ∧ k = 8 - i ∧ fr.get 5 = some (.int .u32 ((stepn i X : Nat) : Int)) ∧ fr.get 11 = some (v) ∧ fr.get 12 = some (.int .i64 xs.length) ∧ fr.get 13 = some (.int .i64 j) ∧ fr.get 21 = some (.int .i64 i) ∧ H2 = H1) ?_ 8 ?_
  case refine_2 =>
    refine ⟨0, by omega, by omega, ?_⟩
    simp only [↓yG, Nat.reduceEqDiff, ↓reduceIte, Int.natCast_add, Int.cast_ofNat_Int, Int.natCast_zero, true_and, and_true, Option.some.injEq, Value.int.injEq, f11, f12, f13, stepn]
  rintro k fr H2 ⟨i, hi, rfl, f5, f11, f12, f13, f21, rfl⟩ J2 hJ2
  generalize hY : stepn i X = Y at f5
  have hYl : Y < 4294967296 := by rw [← hY]; exact stepn_lt _ hXl
  have hy1 : ∀ e, gbin .and e (.int .u32 (Y : Int)) (.int .u32 1) = some (.int .u32 ((Y &&& 1 : Nat) : Int)) := fun e => gb_and32 (b := 1) hYl (by decide)
  have hy2 : ∀ e k', gbin .shr e (.int .u32 (Y : Int)) (.int k' 1) = some (.int .u32 ((Y / 2 : Nat) : Int)) := fun e k' => gb_shr (s := 1) (by decide)
  have hy3 : ∀ e, gbin .xor e (.int .u32 ((Y / 2 : Nat) : Int)) (.int .u32 2197175160) = some (.int .u32 ((Y / 2 ^^^ 2197175160 : Nat) : Int)) := fun e => gb_xor32 (b := 2197175160) (by omega) (by decide)
  repeat' (first | refine zn ?_ | refine zK rfl ?_ | refine zP rfl ?_ | ((first | refine zm ?_ | skip); intro _; intros; simp (disch := first | exact zd | fail) only [↓yS, yT, gresults, gone, ↓reduceIte, Nat.reduceEqDiff, Nat.reduceAdd, Nat.reduceMul, reduceCtorEq, Int.reduceToNat, g63, f5, f11, f12, f13, f21, hy1, hy2, hy3]; first | (rename_i K k; (first | refine yC (k _ _ ?_) | refine zg (k _ ?_)); clear k K) | (rename_i A B C D a b c d; (first | refine zx (a ?_) | refine zy (b ?_) | refine zz (fun hc => c ?_) (fun hc => d ?_) | refine zv (b ?_) | refine zw (a ?_)) <;> clear a b c d A B C D <;> try simp only [yL] at hc)) | refine zA ?_ | refine zB ?_ | refine zF ?_)
  case refine_1.refine_1.refine_1 =>
    refine hJ2 _ _ ⟨8 - (i + 1), by omega, i + 1, by omega, rfl, ?_⟩
    have : stepn (i + 1) X = Y / 2 ^^^ 2197175160 := by rw [stepn_succ, hY, stepN_eq1 (by omega)]
    simp only [↓yG, Nat.reduceEqDiff, ↓reduceIte, Int.natCast_add, Int.cast_ofNat_Int, Int.natCast_zero, true_and, and_true, Option.some.injEq, Value.int.injEq, f11, f12, f13, this]
  case refine_1.refine_1.refine_2 =>
    refine hJ2 _ _ ⟨8 - (i + 1), by omega, i + 1, by omega, rfl, ?_⟩
    have : stepn (i + 1) X = Y / 2 := by rw [stepn_succ, hY, stepN_eq0 (by omega)]
    simp only [↓yG, Nat.reduceEqDiff, ↓reduceIte, Int.natCast_add, Int.cast_ofNat_Int, Int.natCast_zero, true_and, and_true, Option.some.injEq, Value.int.injEq, f11, f12, f13, this]
  case refine_1.refine_2 =>
    refine hJ _ _ ⟨xs.length - (j + 1), by omega, j + 1, by omega, rfl, ?_⟩
    obtain rfl : i = 8 := by omega
    have : regN (4294967295 ^^^ s) (xs.take (j + 1)) = Y := by
      rw [List.take_succ_eq_append_getElem (by omega), regN_snoc, hR, ← getElem!_pos xs j (by omega), hX, hY]
    simp only [↓yG, Nat.reduceEqDiff, ↓reduceIte, Int.natCast_add, Int.cast_ofNat_Int, Int.natCast_zero, true_and, and_true, Option.some.injEq, Value.int.injEq, f5, f11, f12, this]
theorem rsum_ok {H : GHeap} {v : Value} {xs : List UInt8} (hv : RB H v xs) (hl : xs.length < 70368744177664) :
    ∃ r H', gev G 58 [v] H = some (r, H') ∧ (r = .int .u32 ((crcN xs : Nat) : Int) ∧ H' = H) := by
  refine gev_GW (f := 58) rfl fun Post hPost => ?_
  have hc := rupd_ok hv hl (s := 0) (by decide)
  rw [crcN_eq] at hc
  simp only [frameOf, Nat.reduceAdd]
  repeat' (first | refine zn ?_ | refine zK rfl ?_ | refine zP rfl ?_ | ((first | refine zm ?_ | skip); intro _; intros; simp (disch := first | exact zd | fail) only [↓yS, yT, gresults, gone, ↓reduceIte, Nat.reduceEqDiff, Nat.reduceAdd, Nat.reduceMul, reduceCtorEq, Int.reduceToNat, g58]; first | (rename_i K k; (first | refine yC (k _ _ ?_) | refine zg (k _ ?_)); clear k K) | (rename_i A B C D a b c d; (first | refine zx (a ?_) | refine zy (b ?_) | refine zz (fun hc => c ?_) (fun hc => d ?_) | refine zv (b ?_) | refine zw (a ?_)) <;> clear a b c d A B C D <;> try simp only [yL] at hc)) | refine zA ?_ | refine zB ?_ | refine zF ?_)
  refine Gw_s fun K' hK' => G1_call (by simp only [gtarget, ↓GArg.ev, ↓evs, ↓Tr.get_set, Nat.reduceEqDiff, if_true, if_false, ↓reduceIte, Option.map_some]; rfl) (hc) fun r' H' hq => hK' _ _ ?_
  obtain ⟨rfl, rfl⟩ := hq
  repeat' (first | refine zn ?_ | refine zK rfl ?_ | refine zP rfl ?_ | ((first | refine zm ?_ | skip); intro _; intros; simp (disch := first | exact zd | fail) only [↓yS, yT, gresults, gone, ↓reduceIte, Nat.reduceEqDiff, Nat.reduceAdd, Nat.reduceMul, reduceCtorEq, Int.reduceToNat, g58]; first | (rename_i K k; (first | refine yC (k _ _ ?_) | refine zg (k _ ?_)); clear k K) | (rename_i A B C D a b c d; (first | refine zx (a ?_) | refine zy (b ?_) | refine zz (fun hc => c ?_) (fun hc => d ?_) | refine zv (b ?_) | refine zw (a ?_)) <;> clear a b c d A B C D <;> try simp only [yL] at hc)) | refine zA ?_ | refine zB ?_ | refine zF ?_)
  exact hPost _ _ ⟨rfl, rfl⟩
theorem leB4 (s : Nat) : leB 4 s = [UInt8.ofNat s, UInt8.ofNat (s / 256), UInt8.ofNat (s / 65536), UInt8.ofNat (s / 16777216)] := by
  simp only [leB, Nat.div_div_eq_div_mul]
theorem seal_ok {H : GHeap} (hw : H.wf) {v : Value} {xs : List UInt8} (hv : RB H v xs) (hl : xs.length < 70368744177664) :
    ∃ r H', gev G 35 [v] H = some (r, H') ∧ OB H H' r (sealB xs) := by
  refine gev_GW (f := 35) rfl fun Post hPost => ?_
  have hc := sum_ok hv hl
  simp only [frameOf, Nat.reduceAdd]
  repeat' (first | refine zn ?_ | refine zK rfl ?_ | refine zP rfl ?_ | ((first | refine zm ?_ | skip); intro _; intros; simp (disch := first | exact zd | fail) only [↓yS, yT, gresults, gone, ↓reduceIte, Nat.reduceEqDiff, Nat.reduceAdd, Nat.reduceMul, reduceCtorEq, Int.reduceToNat, g35]; first | (rename_i K k; (first | refine yC (k _ _ ?_) | refine zg (k _ ?_)); clear k K) | (rename_i A B C D a b c d; (first | refine zx (a ?_) | refine zy (b ?_) | refine zz (fun hc => c ?_) (fun hc => d ?_) | refine zv (b ?_) | refine zw (a ?_)) <;> clear a b c d A B C D <;> try simp only [yL] at hc)) | refine zA ?_ | refine zB ?_ | refine zF ?_)
  refine Gw_s fun K' hK' => G1_call (by simp only [gtarget, ↓GArg.ev, ↓evs, ↓Tr.get_set, Nat.reduceEqDiff, if_true, if_false, ↓reduceIte, Option.map_some]; rfl) (hc) fun r' H' hq => hK' _ _ ?_
  obtain ⟨rfl, rfl⟩ := hq
  repeat' (first | refine zn ?_ | refine zK rfl ?_ | refine zP rfl ?_ | ((first | refine zm ?_ | skip); intro _; intros; simp (disch := first | exact zd | fail) only [↓yS, yT, gresults, gone, ↓reduceIte, Nat.reduceEqDiff, Nat.reduceAdd, Nat.reduceMul, reduceCtorEq, Int.reduceToNat, g35]; first | (rename_i K k; (first | refine yC (k _ _ ?_) | refine zg (k _ ?_)); clear k K) | (rename_i A B C D a b c d; (first | refine zx (a ?_) | refine zy (b ?_) | refine zz (fun hc => c ?_) (fun hc => d ?_) | refine zv (b ?_) | refine zw (a ?_)) <;> clear a b c d A B C D <;> try simp only [yL] at hc)) | refine zA ?_ | refine zB ?_ | refine zF ?_)
  refine Gw_s fun K' hK' => ?_
  simp (disch := first | exact zd | fail) only [↓yS, yT, ↓reduceIte, Nat.reduceEqDiff, Nat.reduceAdd, Nat.reduceMul, reduceCtorEq, Int.reduceToNat]
  obtain ⟨v', H', e, hO⟩ := OB.app (OB.nil (Same.refl hw)) hv (by simp; omega)
  refine G1_eq e (hK' _ _ ?_)
  clear hK' K' e
  repeat' (first | refine zn ?_ | refine zK rfl ?_ | refine zP rfl ?_ | ((first | refine zm ?_ | skip); intro _; intros; simp (disch := first | exact zd | fail) only [↓yS, yT, gresults, gone, ↓reduceIte, Nat.reduceEqDiff, Nat.reduceAdd, Nat.reduceMul, reduceCtorEq, Int.reduceToNat, g35, gcv_int, wrap_u8n, sh8, sh16, sh24, fill4]; first | (rename_i K k; (first | refine yC (k _ _ ?_) | refine zg (k _ ?_)); clear k K) | (rename_i A B C D a b c d; (first | refine zx (a ?_) | refine zy (b ?_) | refine zz (fun hc => c ?_) (fun hc => d ?_) | refine zv (b ?_) | refine zw (a ?_)) <;> clear a b c d A B C D <;> try simp only [yL] at hc)) | refine zA ?_ | refine zB ?_ | refine zF ?_)
  refine Gw_s fun K' hK' => ?_
  simp (disch := first | exact zd | fail) only [↓yS, yT, ↓reduceIte, Nat.reduceEqDiff, Nat.reduceAdd, Nat.reduceMul, reduceCtorEq, Int.reduceToNat]
  obtain ⟨v2, H2, e, hO2⟩ := hO.appNew (b := [UInt8.ofNat (crcN xs), UInt8.ofNat (crcN xs / 256), UInt8.ofNat (crcN xs / 65536), UInt8.ofNat (crcN xs / 16777216)]) (by simp; omega)
  refine G1_eq e (hK' _ _ ?_)
  clear hK' K' e
  repeat' (first | refine zn ?_ | refine zK rfl ?_ | refine zP rfl ?_ | ((first | refine zm ?_ | skip); intro _; intros; simp (disch := first | exact zd | fail) only [↓yS, yT, gresults, gone, ↓reduceIte, Nat.reduceEqDiff, Nat.reduceAdd, Nat.reduceMul, reduceCtorEq, Int.reduceToNat, g35]; first | (rename_i K k; (first | refine yC (k _ _ ?_) | refine zg (k _ ?_)); clear k K) | (rename_i A B C D a b c d; (first | refine zx (a ?_) | refine zy (b ?_) | refine zz (fun hc => c ?_) (fun hc => d ?_) | refine zv (b ?_) | refine zw (a ?_)) <;> clear a b c d A B C D <;> try simp only [yL] at hc)) | refine zA ?_ | refine zB ?_ | refine zF ?_)
  refine hPost _ _ ?_
  rw [sealB, leB4]; exact hO2
theorem openB_at {xs : List UInt8} {m : Nat} (h : xs.length = m + 4) : openB xs = if xs.drop m = leB 4 (crcN (xs.take m)) then some (xs.take m) else none := by
  have e : xs.length - 4 = m := by omega
  unfold openB
  rw [if_neg (by omega), e, sealB]
  have hx : xs.take m ++ xs.drop m = xs := List.take_append_drop m xs
  by_cases hd : xs.drop m = leB 4 (crcN (xs.take m))
  · rw [if_pos hd, if_pos (by rw [← hd, hx])]
  · rw [if_neg hd, if_neg]
    intro h2
    apply hd
    have h3 := congrArg (List.drop m) h2
    rw [List.drop_append_of_le_length (by simp; omega), List.drop_of_length_le (by simp; omega), List.nil_append] at h3
    exact h3.symm
theorem drop4 (xs : List UInt8) (m : Nat) (h : xs.length = m + 4) : xs.drop m = [xs[m]!, xs[m + 1]!, xs[m + 2]!, xs[m + 3]!] := by
  rw [List.drop_eq_getElem_cons (by omega), List.drop_eq_getElem_cons (by omega), List.drop_eq_getElem_cons (by omega), List.drop_eq_getElem_cons (by omega), List.drop_of_length_le (by omega)]
  rw [getElem!_pos xs m (by omega), getElem!_pos xs (m + 1) (by omega), getElem!_pos xs (m + 2) (by omega), getElem!_pos xs (m + 3) (by omega)]
theorem u8_ne {a b : UInt8} (h : ¬ ((a.toNat : Int) = (b.toNat : Int))) : a ≠ b := fun e => h (by rw [e])
theorem u8_eq {a b : UInt8} (h : ((a.toNat : Int) = (b.toNat : Int))) : a = b := UInt8.toNat_inj.1 (by omega)
/-- what Open returns -/
def OpenOut (H H' : GHeap) (r : Value) : Option (List UInt8) → Prop
  | some p => ∃ v, r = .tuple #[v, .int .i64 0] ∧ OB H H' v p
  | none => Same H H' ∧ ∃ e, e ≠ 0 ∧ r = .tuple #[.slice none 0 0, .int .i64 e]
theorem open_ok {H : GHeap} (hw : H.wf) {v : Value} {xs : List UInt8} (hv : RB H v xs) (hl : xs.length < 70368744177664) :
    ∃ r H', gev G 56 [v] H = some (r, H') ∧ OpenOut H H' r (openB xs) := by
  refine gev_GW (f := 56) rfl fun Post hPost => ?_
  have hsl := hv.isSl
  simp only [frameOf, Nat.reduceAdd]
  repeat' (first | refine zn ?_ | refine zK rfl ?_ | refine zP rfl ?_ | ((first | refine zm ?_ | skip); intro _; intros; simp (disch := first | exact zd | fail) only [↓yS, yT, gresults, gone, ↓reduceIte, Nat.reduceEqDiff, Nat.reduceAdd, Nat.reduceMul, reduceCtorEq, Int.reduceToNat, g56, hsl.len]; first | (rename_i K k; (first | refine yC (k _ _ ?_) | refine zg (k _ ?_)); clear k K) | (rename_i A B C D a b c d; (first | refine zx (a ?_) | refine zy (b ?_) | refine zz (fun hc => c ?_) (fun hc => d ?_) | refine zv (b ?_) | refine zw (a ?_)) <;> clear a b c d A B C D <;> try simp only [yL] at hc)) | refine zA ?_ | refine zB ?_ | refine zF ?_)
  case refine_1 =>
    refine hPost _ _ ?_
    rw [openB, if_pos (by omega)]
    exact ⟨Same.refl hw, 4, by decide, rfl⟩
  case refine_2 =>
  obtain ⟨m, hm⟩ : ∃ m, xs.length = m + 4 := ⟨xs.length - 4, by omega⟩
  obtain ⟨vt, hs1, hT⟩ := hv.pre (k := .i64) (b := m) (by omega) (by omega)
  rw [Int.toNat_natCast] at hT
  have hbd : ∀ k : Nat, k < xs.length → H.rd (blk v) (ofs v + k) = some (.int .u8 xs[k]!.toNat) := fun k hk => hv.read hk
  have t1 : ((m : Int) + 1).toNat = m + 1 := by omega
  have t2 : ((m : Int) + 2).toNat = m + 2 := by omega
  have t3 : ((m : Int) + 3).toNat = m + 3 := by omega
  rw [show (xs.length : Int) - 4 = m by omega]
  repeat' (first | refine zn ?_ | refine zK rfl ?_ | refine zP rfl ?_ | ((first | refine zm ?_ | skip); intro _; intros; simp (disch := first | exact zd | fail) only [↓yS, yT, gresults, gone, ↓reduceIte, Nat.reduceEqDiff, Nat.reduceAdd, Nat.reduceMul, reduceCtorEq, Int.reduceToNat, g56, hs1]; first | (rename_i K k; (first | refine yC (k _ _ ?_) | refine zg (k _ ?_)); clear k K) | (rename_i A B C D a b c d; (first | refine zx (a ?_) | refine zy (b ?_) | refine zz (fun hc => c ?_) (fun hc => d ?_) | refine zv (b ?_) | refine zw (a ?_)) <;> clear a b c d A B C D <;> try simp only [yL] at hc)) | refine zA ?_ | refine zB ?_ | refine zF ?_)
  have hc := sum_ok hT (by simp; omega)
  refine Gw_s fun K' hK' => G1_call (by simp only [gtarget, ↓GArg.ev, ↓evs, ↓Tr.get_set, Nat.reduceEqDiff, if_true, if_false, ↓reduceIte, Option.map_some]; rfl) (hc) fun r' H' hq => hK' _ _ ?_
  obtain ⟨rfl, rfl⟩ := hq
  generalize hcr : crcN (xs.take m) = c
  have hof := openB_at hm
  rw [drop4 xs m hm, hcr, leB4] at hof
  repeat' (first | refine zn ?_ | refine zK rfl ?_ | refine zP rfl ?_ | ((first | refine zm ?_ | skip); intro _; intros; simp (disch := first | exact zd | fail) only [↓yS, yT, gresults, gone, ↓reduceIte, Nat.reduceEqDiff, Nat.reduceAdd, Nat.reduceMul, reduceCtorEq, Int.reduceToNat, g56, hsl.ia, hbd, t1, t2, t3, gcv_int, wrap_u8n, sh8, sh16, sh24]; first | (rename_i K k; (first | refine yC (k _ _ ?_) | refine zg (k _ ?_)); clear k K) | (rename_i A B C D a b c d; (first | refine zx (a ?_) | refine zy (b ?_) | refine zz (fun hc => c ?_) (fun hc => d ?_) | refine zv (b ?_) | refine zw (a ?_)) <;> clear a b c d A B C D <;> try simp only [yL] at hc)) | refine zA ?_ | refine zB ?_ | refine zF ?_)
  case refine_2.refine_2.refine_2.refine_2 h0 h1 h2 =>
    repeat' (first | refine zn ?_ | refine zK rfl ?_ | refine zP rfl ?_ | ((first | refine zm ?_ | skip); intro _; intros; simp (disch := first | exact zd | fail) only [↓yS, yT, gresults, gone, ↓reduceIte, Nat.reduceEqDiff, Nat.reduceAdd, Nat.reduceMul, reduceCtorEq, Int.reduceToNat, g56, hs1]; first | (rename_i K k; (first | refine yC (k _ _ ?_) | refine zg (k _ ?_)); clear k K) | (rename_i A B C D a b c d; (first | refine zx (a ?_) | refine zy (b ?_) | refine zz (fun hc => c ?_) (fun hc => d ?_) | refine zv (b ?_) | refine zw (a ?_)) <;> clear a b c d A B C D <;> try simp only [yL] at hc)) | refine zA ?_ | refine zB ?_ | refine zF ?_)
    refine Gw_s fun K' hK' => ?_
    simp (disch := first | exact zd | fail) only [↓yS, yT, ↓reduceIte, Nat.reduceEqDiff, Nat.reduceAdd, Nat.reduceMul, reduceCtorEq, Int.reduceToNat]
    obtain ⟨v', H', e, hO⟩ := OB.app (OB.nil (Same.refl hw)) hT (by simp; omega)
    refine G1_eq e (hK' _ _ ?_)
    clear hK' K' e
    repeat' (first | refine zn ?_ | refine zK rfl ?_ | refine zP rfl ?_ | ((first | refine zm ?_ | skip); intro _; intros; simp (disch := first | exact zd | fail) only [↓yS, yT, gresults, gone, ↓reduceIte, Nat.reduceEqDiff, Nat.reduceAdd, Nat.reduceMul, reduceCtorEq, Int.reduceToNat, g56]; first | (rename_i K k; (first | refine yC (k _ _ ?_) | refine zg (k _ ?_)); clear k K) | (rename_i A B C D a b c d; (first | refine zx (a ?_) | refine zy (b ?_) | refine zz (fun hc => c ?_) (fun hc => d ?_) | refine zv (b ?_) | refine zw (a ?_)) <;> clear a b c d A B C D <;> try simp only [yL] at hc)) | refine zA ?_ | refine zB ?_ | refine zF ?_)
    refine hPost _ _ ?_
    rw [hof, if_pos (by rw [u8_eq h0, u8_eq h1, u8_eq h2, u8_eq hc])]
    exact ⟨_, rfl, hO⟩
  all_goals
    refine hPost _ _ ?_
    rw [hof, if_neg (by
      intro he
      simp only [List.cons.injEq, and_true] at he
      obtain ⟨h0, h1, h2, h3⟩ := he
      first | exact hc (by rw [h0]) | exact hc (by rw [h1]) | exact hc (by rw [h2]) | exact hc (by rw [h3]))]
    exact ⟨Same.refl hw, 19, by decide, rfl⟩
theorem rseal_ok {H : GHeap} (hw : H.wf) {v : Value} {xs : List UInt8} (hv : RB H v xs) (hl : xs.length < 70368744177664) :
    ∃ r H', gev G 43 [v] H = some (r, H') ∧ OB H H' r (sealB xs) := by
  refine gev_GW (f := 43) rfl fun Post hPost => ?_
  have hc := rsum_ok hv hl
  simp only [frameOf, Nat.reduceAdd]
  repeat' (first | refine zn ?_ | refine zK rfl ?_ | refine zP rfl ?_ | ((first | refine zm ?_ | skip); intro _; intros; simp (disch := first | exact zd | fail) only [↓yS, yT, gresults, gone, ↓reduceIte, Nat.reduceEqDiff, Nat.reduceAdd, Nat.reduceMul, reduceCtorEq, Int.reduceToNat, g43]; first | (rename_i K k; (first | refine yC (k _ _ ?_) | refine zg (k _ ?_)); clear k K) | (rename_i A B C D a b c d; (first | refine zx (a ?_) | refine zy (b ?_) | refine zz (fun hc => c ?_) (fun hc => d ?_) | refine zv (b ?_) | refine zw (a ?_)) <;> clear a b c d A B C D <;> try simp only [yL] at hc)) | refine zA ?_ | refine zB ?_ | refine zF ?_)
  refine Gw_s fun K' hK' => G1_call (by simp only [gtarget, ↓GArg.ev, ↓evs, ↓Tr.get_set, Nat.reduceEqDiff, if_true, if_false, ↓reduceIte, Option.map_some]; rfl) (hc) fun r' H' hq => hK' _ _ ?_
  obtain ⟨rfl, rfl⟩ := hq
  repeat' (first | refine zn ?_ | refine zK rfl ?_ | refine zP rfl ?_ | ((first | refine zm ?_ | skip); intro _; intros; simp (disch := first | exact zd | fail) only [↓yS, yT, gresults, gone, ↓reduceIte, Nat.reduceEqDiff, Nat.reduceAdd, Nat.reduceMul, reduceCtorEq, Int.reduceToNat, g43]; first | (rename_i K k; (first | refine yC (k _ _ ?_) | refine zg (k _ ?_)); clear k K) | (rename_i A B C D a b c d; (first | refine zx (a ?_) | refine zy (b ?_) | refine zz (fun hc => c ?_) (fun hc => d ?_) | refine zv (b ?_) | refine zw (a ?_)) <;> clear a b c d A B C D <;> try simp only [yL] at hc)) | refine zA ?_ | refine zB ?_ | refine zF ?_)
  have hO0 := OB.made (l := []) (Same.refl hw) rfl 1 (.inr rfl)
  refine Gw_s fun K' hK' => ?_
  simp (disch := first | exact zd | fail) only [↓yS, yT, ↓reduceIte, Nat.reduceEqDiff, Nat.reduceAdd, Nat.reduceMul, reduceCtorEq, Int.reduceToNat]
  obtain ⟨v', H', e, hO⟩ := hO0.app (hv.same_ hw hO0.same) (by simp; omega)
  refine G1_eq e (hK' _ _ ?_)
  clear hK' K' e
  repeat' (first | refine zn ?_ | refine zK rfl ?_ | refine zP rfl ?_ | ((first | refine zm ?_ | skip); intro _; intros; simp (disch := first | exact zd | fail) only [↓yS, yT, gresults, gone, ↓reduceIte, Nat.reduceEqDiff, Nat.reduceAdd, Nat.reduceMul, reduceCtorEq, Int.reduceToNat, g43, sh8, sh16, sh24, fill4]; first | (rename_i K k; (first | refine yC (k _ _ ?_) | refine zg (k _ ?_)); clear k K) | (rename_i A B C D a b c d; (first | refine zx (a ?_) | refine zy (b ?_) | refine zz (fun hc => c ?_) (fun hc => d ?_) | refine zv (b ?_) | refine zw (a ?_)) <;> clear a b c d A B C D <;> try simp only [yL] at hc)) | refine zA ?_ | refine zB ?_ | refine zF ?_)
  refine Gw_s fun K' hK' => ?_
  simp (disch := first | exact zd | fail) only [↓yS, yT, ↓reduceIte, Nat.reduceEqDiff, Nat.reduceAdd, Nat.reduceMul, reduceCtorEq, Int.reduceToNat]
  obtain ⟨v2, H2, e, hO2⟩ := hO.appNew (b := [UInt8.ofNat (crcN xs), UInt8.ofNat (crcN xs / 256), UInt8.ofNat (crcN xs / 65536), UInt8.ofNat (crcN xs / 16777216)]) (by simp; omega)
  refine G1_eq e (hK' _ _ ?_)
  clear hK' K' e
  repeat' (first | refine zn ?_ | refine zK rfl ?_ | refine zP rfl ?_ | ((first | refine zm ?_ | skip); intro _; intros; simp (disch := first | exact zd | fail) only [↓yS, yT, gresults, gone, ↓reduceIte, Nat.reduceEqDiff, Nat.reduceAdd, Nat.reduceMul, reduceCtorEq, Int.reduceToNat, g43]; first | (rename_i K k; (first | refine yC (k _ _ ?_) | refine zg (k _ ?_)); clear k K) | (rename_i A B C D a b c d; (first | refine zx (a ?_) | refine zy (b ?_) | refine zz (fun hc => c ?_) (fun hc => d ?_) | refine zv (b ?_) | refine zw (a ?_)) <;> clear a b c d A B C D <;> try simp only [yL] at hc)) | refine zA ?_ | refine zB ?_ | refine zF ?_)
  refine hPost _ _ ?_
  rw [sealB, leB4]; exact hO2
theorem ropen_ok {H : GHeap} (hw : H.wf) {v : Value} {xs : List UInt8} (hv : RB H v xs) (hl : xs.length < 70368744177664) :
    ∃ r H', gev G 59 [v] H = some (r, H') ∧ OpenOut H H' r (openB xs) := by
  refine gev_GW (f := 59) rfl fun Post hPost => ?_
  have hsl := hv.isSl
  simp only [frameOf, Nat.reduceAdd]
  repeat' (first | refine zn ?_ | refine zK rfl ?_ | refine zP rfl ?_ | ((first | refine zm ?_ | skip); intro _; intros; simp (disch := first | exact zd | fail) only [↓yS, yT, gresults, gone, ↓reduceIte, Nat.reduceEqDiff, Nat.reduceAdd, Nat.reduceMul, reduceCtorEq, Int.reduceToNat, g59, hsl.len]; first | (rename_i K k; (first | refine yC (k _ _ ?_) | refine zg (k _ ?_)); clear k K) | (rename_i A B C D a b c d; (first | refine zx (a ?_) | refine zy (b ?_) | refine zz (fun hc => c ?_) (fun hc => d ?_) | refine zv (b ?_) | refine zw (a ?_)) <;> clear a b c d A B C D <;> try simp only [yL] at hc)) | refine zA ?_ | refine zB ?_ | refine zF ?_)
  case refine_1 =>
    refine hPost _ _ ?_
    rw [openB, if_pos (by omega)]
    exact ⟨Same.refl hw, 4, by decide, rfl⟩
  case refine_2 =>
  obtain ⟨m, hm⟩ : ∃ m, xs.length = m + 4 := ⟨xs.length - 4, by omega⟩
  obtain ⟨vt, hs1, hT⟩ := hv.pre (k := .i64) (b := m) (by omega) (by omega)
  rw [Int.toNat_natCast] at hT
  rw [show (xs.length : Int) - 4 = m by omega]
  repeat' (first | refine zn ?_ | refine zK rfl ?_ | refine zP rfl ?_ | ((first | refine zm ?_ | skip); intro _; intros; simp (disch := first | exact zd | fail) only [↓yS, yT, gresults, gone, ↓reduceIte, Nat.reduceEqDiff, Nat.reduceAdd, Nat.reduceMul, reduceCtorEq, Int.reduceToNat, g59, hs1]; first | (rename_i K k; (first | refine yC (k _ _ ?_) | refine zg (k _ ?_)); clear k K) | (rename_i A B C D a b c d; (first | refine zx (a ?_) | refine zy (b ?_) | refine zz (fun hc => c ?_) (fun hc => d ?_) | refine zv (b ?_) | refine zw (a ?_)) <;> clear a b c d A B C D <;> try simp only [yL] at hc)) | refine zA ?_ | refine zB ?_ | refine zF ?_)
  refine Gw_s fun K' hK' => G1_callM (by simp only [gtarget, ↓GArg.ev, ↓evs, ↓Tr.get_set, Nat.reduceEqDiff, if_true, if_false, ↓reduceIte, Option.map_some]; rfl) (rseal_ok (wf_up hw) hT.up (by simp; omega)) fun r' H' hq => hK' _ _ ?_
  have hO := hq.down hw
  have hc1 := hO.rb.str
  have hc2 := (hv.same_ hw hO.same).str
  have hof : openB xs = if sealB (xs.take m) = xs then some (xs.take m) else none := by
    unfold openB
    rw [if_neg (by omega), show xs.length - 4 = m by omega]
  repeat' (first | refine zn ?_ | refine zK rfl ?_ | refine zP rfl ?_ | ((first | refine zm ?_ | skip); intro _; intros; simp (disch := first | exact zd | fail) only [↓yS, yT, gresults, gone, ↓reduceIte, Nat.reduceEqDiff, Nat.reduceAdd, Nat.reduceMul, reduceCtorEq, Int.reduceToNat, g59, hc1, hc2]; first | (rename_i K k; (first | refine yC (k _ _ ?_) | refine zg (k _ ?_)); clear k K) | (rename_i A B C D a b c d; (first | refine zx (a ?_) | refine zy (b ?_) | refine zz (fun hc => c ?_) (fun hc => d ?_) | refine zv (b ?_) | refine zw (a ?_)) <;> clear a b c d A B C D <;> try simp only [yL] at hc)) | refine zA ?_ | refine zB ?_ | refine zF ?_)
  case refine_1 =>
    refine hPost _ _ ?_
    rw [hof, if_neg hc]
    exact ⟨hO.same, 19, by decide, rfl⟩
  case refine_2 =>
    have hS3 : Same H ((H'.down H.lim).add (some (.cells [] 257 true))) := hO.same.add _
    obtain ⟨vt2, hs2, hT2⟩ := (hv.same_ hw hS3).pre (k := .i64) (b := m) (by omega) (by omega)
    rw [Int.toNat_natCast] at hT2
    repeat' (first | refine zn ?_ | refine zK rfl ?_ | refine zP rfl ?_ | ((first | refine zm ?_ | skip); intro _; intros; simp (disch := first | exact zd | fail) only [↓yS, yT, gresults, gone, ↓reduceIte, Nat.reduceEqDiff, Nat.reduceAdd, Nat.reduceMul, reduceCtorEq, Int.reduceToNat, g59, hs2]; first | (rename_i K k; (first | refine yC (k _ _ ?_) | refine zg (k _ ?_)); clear k K) | (rename_i A B C D a b c d; (first | refine zx (a ?_) | refine zy (b ?_) | refine zz (fun hc => c ?_) (fun hc => d ?_) | refine zv (b ?_) | refine zw (a ?_)) <;> clear a b c d A B C D <;> try simp only [yL] at hc)) | refine zA ?_ | refine zB ?_ | refine zF ?_)
    refine Gw_s fun K' hK' => ?_
    simp (disch := first | exact zd | fail) only [↓yS, yT, ↓reduceIte, Nat.reduceEqDiff, Nat.reduceAdd, Nat.reduceMul, reduceCtorEq, Int.reduceToNat]
    obtain ⟨v2, H2, e, hO2⟩ := (OB.made (l := []) hO.same rfl 1 (.inr rfl)).app hT2 (by simp; omega)
    refine G1_eq e (hK' _ _ ?_)
    clear hK' K' e
    repeat' (first | refine zn ?_ | refine zK rfl ?_ | refine zP rfl ?_ | ((first | refine zm ?_ | skip); intro _; intros; simp (disch := first | exact zd | fail) only [↓yS, yT, gresults, gone, ↓reduceIte, Nat.reduceEqDiff, Nat.reduceAdd, Nat.reduceMul, reduceCtorEq, Int.reduceToNat, g59]; first | (rename_i K k; (first | refine yC (k _ _ ?_) | refine zg (k _ ?_)); clear k K) | (rename_i A B C D a b c d; (first | refine zx (a ?_) | refine zy (b ?_) | refine zz (fun hc => c ?_) (fun hc => d ?_) | refine zv (b ?_) | refine zw (a ?_)) <;> clear a b c d A B C D <;> try simp only [yL] at hc)) | refine zA ?_ | refine zB ?_ | refine zF ?_)
    refine hPost _ _ ?_
    rw [hof, if_pos hc]
    exact ⟨_, rfl, by simpa using hO2⟩
/-- the first j bytes of a number, and zeros -/
def lowPart (k n j : Nat) : List UInt8 := (leB k n).take j ++ List.replicate (k - j) 0
theorem lowPart_next {k n j : Nat} (h : j < k) : (lowPart k n j).set j (UInt8.ofNat (n / 2 ^ (8 * j))) = lowPart k n (j + 1) := by
  unfold lowPart
  have hl := leB_length k n
  have hg := leB_get k n j h
  have hj : ((leB k n).take j).length = j := by simp; omega
  rw [List.set_append_right _ _ (by omega), hj, Nat.sub_self, show k - j = (k - (j + 1)) + 1 by omega, List.replicate_succ, List.set_cons_zero]
  rw [List.take_add_one, hg]
  simp
theorem lowPart_length {k n j : Nat} (h : j ≤ k) : (lowPart k n j).length = k := by
  have hl := leB_length k n
  simp [lowPart]; omega
set_option maxHeartbeats 1000000 in
theorem low_ok {H : GHeap} (hw : H.wf) {n k : Nat} (hk : k ≤ 8) (_hn : n < 18446744073709551616) :
    ∃ r H', gev G 36 [.int .u64 n, .int .i64 k] H = some (r, H') ∧ OB H H' r (leB k n) := by
  refine gev_GW (f := 36) rfl fun Post hPost => ?_
  have hlim := hw.1
  simp only [frameOf, Nat.reduceAdd]
  repeat' (first | refine zn ?_ | refine zK rfl ?_ | refine zP rfl ?_ | ((first | refine zm ?_ | skip); intro _; intros; simp (disch := first | exact zd | fail) only [↓yS, yT, gresults, gone, ↓reduceIte, Nat.reduceEqDiff, Nat.reduceAdd, Nat.reduceMul, reduceCtorEq, Int.reduceToNat, g36]; first | (rename_i K k; (first | refine yC (k _ _ ?_) | refine zg (k _ ?_)); clear k K) | (rename_i A B C D a b c d; (first | refine zx (a ?_) | refine zy (b ?_) | refine zz (fun hc => c ?_) (fun hc => d ?_) | refine zv (b ?_) | refine zw (a ?_)) <;> clear a b c d A B C D <;> try simp only [yL] at hc)) | refine zA ?_ | refine zB ?_ | refine zF ?_)
  refine GW_loop (fun q fr H1 => ∃ (j : Nat), j ≤ k ∧ q = k - j ∧ fr.get 0 = some (.int .u64 n) ∧ fr.get 5 = some (.slice (some ⟨H.len, 0, none⟩) k (k + 1)) ∧ fr.get 10 = some (.int .i64 k) ∧ fr.get 11 = some (.int .i64 j) ∧ Same H H1 ∧ H.len < H1.len ∧ H1.mine H.len = some (u8s (lowPart k n j), 257)) ?_ k ?_
  case refine_2 =>
    refine ⟨0, by omega, by omega, ?_⟩
    simp only [↓yG, Nat.reduceEqDiff, ↓reduceIte, Int.natCast_add, Int.cast_ofNat_Int, Int.natCast_zero, true_and, and_true, Option.some.injEq, Value.int.injEq]
    refine ⟨(Same.refl hw).add _, Nat.lt_succ_self _, ?_⟩
    rw [mine_add_eq rfl hw.1]
    simp [lowPart]
  rintro q fr H1 ⟨j, hj, rfl, f0, f5, f10, f11, hS, hlt, hm⟩ J hJ
  have hlp := lowPart_length (n := n) hj
  have hs1 : ∀ e k', gbin .shr e (.int .u64 (n : Int)) (.int k' (8 * (j : Int))) = some (.int .u64 ((n / 2 ^ (8 * j) : Nat) : Int)) := fun e k' => by
    have := gb_shr (e := e) (k := .u64) (k' := k') (a := n) (s := 8 * j) (by show 8 * j ≤ 64; omega)
    simpa using this
  have hia : ∀ kd : IntKind, j < k → gia none 1 (.slice (some ⟨H.len, 0, none⟩) k (k + 1)) (.int kd j) = some (.pointer (some ⟨H.len, j, none⟩)) := fun kd h => by simp [gia, h]
  repeat' (first | refine zn ?_ | refine zK rfl ?_ | refine zP rfl ?_ | ((first | refine zm ?_ | skip); intro _; intros; simp (disch := first | exact zd | fail) only [↓yS, yT, gresults, gone, ↓reduceIte, Nat.reduceEqDiff, Nat.reduceAdd, Nat.reduceMul, reduceCtorEq, Int.reduceToNat, g36, f0, f5, f10, f11, hs1, hia, hm, hlp]; first | (rename_i K k; (first | refine yC (k _ _ ?_) | refine zg (k _ ?_)); clear k K) | (rename_i A B C D a b c d; (first | refine zx (a ?_) | refine zy (b ?_) | refine zz (fun hc => c ?_) (fun hc => d ?_) | refine zv (b ?_) | refine zw (a ?_)) <;> clear a b c d A B C D <;> try simp only [yL] at hc)) | refine zA ?_ | refine zB ?_ | refine zF ?_)
  case refine_1.refine_1 =>
    rw [lowPart_next (by omega)]
    refine hJ _ _ ⟨k - (j + 1), by omega, j + 1, by omega, rfl, ?_⟩
    simp only [↓yG, Nat.reduceEqDiff, ↓reduceIte, Int.natCast_add, Int.cast_ofNat_Int, Int.natCast_zero, true_and, and_true, Option.some.injEq, Value.int.injEq, f0, f5, f10]
    exact ⟨hS.put (Nat.le_refl _) hlt _, hlt, mine_put_same (by rw [hS.lim]; exact hlim)⟩
  case refine_1.refine_2 =>
    refine hPost _ _ ?_
    obtain rfl : j = k := by omega
    have e : lowPart j n j = leB j n := by
      have hl := leB_length j n
      simp [lowPart, List.take_of_length_le (show (leB j n).length ≤ j by omega)]
    rw [e] at hm
    exact ⟨hS, ⟨by rw [u8s_length, Nat.mul_one], .inr ⟨_, _, by rw [leB_length], .inr (by rw [leB_length]), hm⟩⟩, .inr (Nat.le_refl _)⟩
/-- the reference's -/
theorem rlow_ok {H : GHeap} (hw : H.wf) {n k : Nat} (hk : k ≤ 8) (_hn : n < 18446744073709551616) :
    ∃ r H', gev G 44 [.int .u64 n, .int .i64 k] H = some (r, H') ∧ OB H H' r (leB k n) := by
  refine gev_GW (f := 44) rfl fun Post hPost => ?_
  have hl := leB_length k n
  simp only [frameOf, Nat.reduceAdd]
  repeat' (first | refine zn ?_ | refine zK rfl ?_ | refine zP rfl ?_ | ((first | refine zm ?_ | skip); intro _; intros; simp (disch := first | exact zd | fail) only [↓yS, yT, gresults, gone, ↓reduceIte, Nat.reduceEqDiff, Nat.reduceAdd, Nat.reduceMul, reduceCtorEq, Int.reduceToNat, g44]; first | (rename_i K k; (first | refine yC (k _ _ ?_) | refine zg (k _ ?_)); clear k K) | (rename_i A B C D a b c d; (first | refine zx (a ?_) | refine zy (b ?_) | refine zz (fun hc => c ?_) (fun hc => d ?_) | refine zv (b ?_) | refine zw (a ?_)) <;> clear a b c d A B C D <;> try simp only [yL] at hc)) | refine zA ?_ | refine zB ?_ | refine zF ?_)
  refine GW_loop (fun q fr H1 => ∃ (j : Nat) (v : Value), j ≤ k ∧ q = k - j ∧ fr.get 0 = some (.int .u64 n) ∧ fr.get 5 = some (v) ∧ fr.get 7 = some (.int .i64 k) ∧ fr.get 8 = some (.int .i64 j) ∧ OB H H1 v ((leB k n).take j)) ?_ k ?_
  case refine_2 =>
    refine ⟨0, .slice none 0 0, by omega, by omega, ?_⟩
    simp only [↓yG, Nat.reduceEqDiff, ↓reduceIte, Int.natCast_add, Int.cast_ofNat_Int, Int.natCast_zero, true_and, and_true, Option.some.injEq, Value.int.injEq]
    exact OB.nil (Same.refl hw)
  rintro q fr H1 ⟨j, v, hj, rfl, f0, f5, f7, f8, hO⟩ J hJ
  have hs1 : ∀ e k', gbin .shr e (.int .u64 (n : Int)) (.int k' (8 * (j : Int))) = some (.int .u64 ((n / 2 ^ (8 * j) : Nat) : Int)) := fun e k' => by
    have := gb_shr (e := e) (k := .u64) (k' := k') (a := n) (s := 8 * j) (by show 8 * j ≤ 64; omega)
    simpa using this
  repeat' (first | refine zn ?_ | refine zK rfl ?_ | refine zP rfl ?_ | ((first | refine zm ?_ | skip); intro _; intros; simp (disch := first | exact zd | fail) only [↓yS, yT, gresults, gone, ↓reduceIte, Nat.reduceEqDiff, Nat.reduceAdd, Nat.reduceMul, reduceCtorEq, Int.reduceToNat, g44, f0, f5, f7, f8, hs1]; first | (rename_i K k; (first | refine yC (k _ _ ?_) | refine zg (k _ ?_)); clear k K) | (rename_i A B C D a b c d; (first | refine zx (a ?_) | refine zy (b ?_) | refine zz (fun hc => c ?_) (fun hc => d ?_) | refine zv (b ?_) | refine zw (a ?_)) <;> clear a b c d A B C D <;> try simp only [yL] at hc)) | refine zA ?_ | refine zB ?_ | refine zF ?_)
  case refine_1.refine_1 =>
    refine Gw_s fun K' hK' => ?_
    simp (disch := first | exact zd | fail) only [↓yS, yT, ↓reduceIte, Nat.reduceEqDiff, Nat.reduceAdd, Nat.reduceMul, reduceCtorEq, Int.reduceToNat, f0, f5, f7, f8]
    obtain ⟨v2, H2, e, hO2⟩ := hO.appNew (b := [UInt8.ofNat (n / 2 ^ (8 * j))]) (by simp; omega)
    refine G1_eq e (hK' _ _ ?_)
    clear hK' K' e
    repeat' (first | refine zn ?_ | refine zK rfl ?_ | refine zP rfl ?_ | ((first | refine zm ?_ | skip); intro _; intros; simp (disch := first | exact zd | fail) only [↓yS, yT, gresults, gone, ↓reduceIte, Nat.reduceEqDiff, Nat.reduceAdd, Nat.reduceMul, reduceCtorEq, Int.reduceToNat, g44, f0, f5, f7, f8]; first | (rename_i K k; (first | refine yC (k _ _ ?_) | refine zg (k _ ?_)); clear k K) | (rename_i A B C D a b c d; (first | refine zx (a ?_) | refine zy (b ?_) | refine zz (fun hc => c ?_) (fun hc => d ?_) | refine zv (b ?_) | refine zw (a ?_)) <;> clear a b c d A B C D <;> try simp only [yL] at hc)) | refine zA ?_ | refine zB ?_ | refine zF ?_)
    refine hJ _ _ ⟨k - (j + 1), by omega, j + 1, v2, by omega, rfl, ?_⟩
    have e : (leB k n).take (j + 1) = (leB k n).take j ++ [UInt8.ofNat (n / 2 ^ (8 * j))] := by
      rw [List.take_add_one, leB_get k n j (by omega)]; rfl
    rw [e]
    simp only [↓yG, Nat.reduceEqDiff, ↓reduceIte, Int.natCast_add, Int.cast_ofNat_Int, Int.natCast_zero, true_and, and_true, Option.some.injEq, Value.int.injEq, f0, f7]
    exact hO2
  case refine_1.refine_2 =>
    refine hPost _ _ ?_
    rw [List.take_of_length_le (by omega)] at hO
    exact hO
theorem num_ok {H : GHeap} {v : Value} {xs : List UInt8} (hv : RB H v xs) (hl : xs.length ≤ 8) :
    ∃ r H', gev G 55 [v] H = some (r, H') ∧ (r = .int .u64 ((leN xs : Nat) : Int) ∧ H' = H) := by
  refine gev_GW (f := 55) rfl fun Post hPost => ?_
  have hsl := hv.isSl
  simp only [frameOf, Nat.reduceAdd]
  repeat' (first | refine zn ?_ | refine zK rfl ?_ | refine zP rfl ?_ | ((first | refine zm ?_ | skip); intro _; intros; simp (disch := first | exact zd | fail) only [↓yS, yT, gresults, gone, ↓reduceIte, Nat.reduceEqDiff, Nat.reduceAdd, Nat.reduceMul, reduceCtorEq, Int.reduceToNat, g55, hsl.len]; first | (rename_i K k; (first | refine yC (k _ _ ?_) | refine zg (k _ ?_)); clear k K) | (rename_i A B C D a b c d; (first | refine zx (a ?_) | refine zy (b ?_) | refine zz (fun hc => c ?_) (fun hc => d ?_) | refine zv (b ?_) | refine zw (a ?_)) <;> clear a b c d A B C D <;> try simp only [yL] at hc)) | refine zA ?_ | refine zB ?_ | refine zF ?_)
  refine GW_loop (fun k fr H1 => ∃ (j : Nat), j ≤ xs.length ∧ k = xs.length - j ∧ fr.get 3 = some (.int .u64 ((leN (xs.take j) : Nat) : Int)) ∧ fr.get 6 = some (v) ∧ fr.get 7 = some (.int .i64 xs.length) ∧ fr.get 8 = some (.int .i64 j) ∧ H1 = H) ?_ xs.length ?_
  case refine_2 =>
    refine ⟨0, by omega, by omega, ?_⟩
    simp only [↓yG, Nat.reduceEqDiff, ↓reduceIte, Int.natCast_add, Int.cast_ofNat_Int, Int.natCast_zero, true_and, and_true, Option.some.injEq, Value.int.injEq]
    rfl
  rintro k fr H1 ⟨j, hj, rfl, f3, f6, f7, f8, rfl⟩ J hJ
  have hbd : ∀ k : Nat, k < xs.length → H1.rd (blk v) (ofs v + k) = some (.int .u8 xs[k]!.toNat) := fun k hk => hv.read hk
  have hlt : leN (xs.take j) < 2 ^ (8 * j) := by
    have := leN_lt (xs.take j)
    rw [List.length_take, Nat.min_eq_left hj] at this
    rw [Nat.pow_mul]; exact this
  have hb := xs[j]!.toNat_lt
  have hcase : 2 ^ (8 * j) * 256 ≤ 18446744073709551616 ∨ j = xs.length := by
    by_cases h : j = xs.length
    · exact .inr h
    · left
      have : (2 : Nat) ^ (8 * j) ≤ 2 ^ 56 := Nat.pow_le_pow_right (by decide) (by omega)
      omega
  have hmul : xs[j]!.toNat * 2 ^ (8 * j) ≤ 255 * 2 ^ (8 * j) := Nat.mul_le_mul_right _ (by omega)
  have hs1 : j < xs.length → ∀ e k', gbin .shl e (.int .u64 (xs[j]!.toNat : Int)) (.int k' (8 * (j : Int))) = some (.int .u64 ((xs[j]!.toNat * 2 ^ (8 * j) : Nat) : Int)) := fun hjl e k' => by
    have := gb_shl (e := e) (k := .u64) (k' := k') (a := xs[j]!.toNat) (s := 8 * j) (by show 8 * j ≤ 64; omega)
    rw [wrap_u64n (by omega)] at this
    simpa using this
  have hs2 : j < xs.length → ∀ e, gbin .or e (.int .u64 ((leN (xs.take j) : Nat) : Int)) (.int .u64 ((xs[j]!.toNat * 2 ^ (8 * j) : Nat) : Int)) = some (.int .u64 ((leN (xs.take (j + 1)) : Nat) : Int)) := fun hjl e => by
    rw [gb_or64 (by omega) (by omega)]
    congr 3
    rw [Nat.or_comm, ← Nat.shiftLeft_eq, ← Nat.shiftLeft_add_eq_or_of_lt hlt, Nat.shiftLeft_eq, List.take_succ_eq_append_getElem hjl, leN_append, List.length_take, Nat.min_eq_left hj, ← getElem!_pos xs j hjl]
    simp only [leN, Nat.mul_zero, Nat.add_zero]
    rw [Nat.pow_mul, show (2 : Nat) ^ 8 = 256 from by decide, Nat.mul_comm]
    omega
  repeat' (first | refine zn ?_ | refine zK rfl ?_ | refine zP rfl ?_ | ((first | refine zm ?_ | skip); intro _; intros; simp (disch := first | exact zd | fail) only [↓yS, yT, gresults, gone, ↓reduceIte, Nat.reduceEqDiff, Nat.reduceAdd, Nat.reduceMul, reduceCtorEq, Int.reduceToNat, g55, f3, f6, f7, f8, hsl.len, hsl.ia, hbd, u64_byte, hs1, hs2]; first | (rename_i K k; (first | refine yC (k _ _ ?_) | refine zg (k _ ?_)); clear k K) | (rename_i A B C D a b c d; (first | refine zx (a ?_) | refine zy (b ?_) | refine zz (fun hc => c ?_) (fun hc => d ?_) | refine zv (b ?_) | refine zw (a ?_)) <;> clear a b c d A B C D <;> try simp only [yL] at hc)) | refine zA ?_ | refine zB ?_ | refine zF ?_)
  case refine_1.refine_1 =>
    refine hJ _ _ ⟨xs.length - (j + 1), by omega, j + 1, by omega, rfl, ?_⟩
    simp only [↓yG, Nat.reduceEqDiff, ↓reduceIte, Int.natCast_add, Int.cast_ofNat_Int, Int.natCast_zero, true_and, and_true, Option.some.injEq, Value.int.injEq, f6, f7]
  case refine_1.refine_2 =>
    refine hPost _ _ ⟨?_, rfl⟩
    rw [List.take_of_length_le (by omega)]
theorem rnum_ok {H : GHeap} {v : Value} {xs : List UInt8} (hv : RB H v xs) (hl : xs.length ≤ 8) :
    ∃ r H', gev G 60 [v] H = some (r, H') ∧ (r = .int .u64 ((leN xs : Nat) : Int) ∧ H' = H) := by
  refine gev_GW (f := 60) rfl fun Post hPost => ?_
  have hsl := hv.isSl
  simp only [frameOf, Nat.reduceAdd]
  repeat' (first | refine zn ?_ | refine zK rfl ?_ | refine zP rfl ?_ | ((first | refine zm ?_ | skip); intro _; intros; simp (disch := first | exact zd | fail) only [↓yS, yT, gresults, gone, ↓reduceIte, Nat.reduceEqDiff, Nat.reduceAdd, Nat.reduceMul, reduceCtorEq, Int.reduceToNat, g60, hsl.len]; first | (rename_i K k; (first | refine yC (k _ _ ?_) | refine zg (k _ ?_)); clear k K) | (rename_i A B C D a b c d; (first | refine zx (a ?_) | refine zy (b ?_) | refine zz (fun hc => c ?_) (fun hc => d ?_) | refine zv (b ?_) | refine zw (a ?_)) <;> clear a b c d A B C D <;> try simp only [yL] at hc)) | refine zA ?_ | refine zB ?_ | refine zF ?_)
  refine GW_loop (fun k fr H1 => ∃ (j : Nat), j ≤ xs.length ∧ k = xs.length - j ∧ fr.get 3 = some (.int .u64 ((leN (xs.take j) : Nat) : Int)) ∧ fr.get 6 = some (v) ∧ fr.get 7 = some (.int .i64 xs.length) ∧ fr.get 8 = some (.int .i64 j) ∧ H1 = H) ?_ xs.length ?_
  case refine_2 =>
    refine ⟨0, by omega, by omega, ?_⟩
    simp only [↓yG, Nat.reduceEqDiff, ↓reduceIte, Int.natCast_add, Int.cast_ofNat_Int, Int.natCast_zero, true_and, and_true, Option.some.injEq, Value.int.injEq]
    rfl
  rintro k fr H1 ⟨j, hj, rfl, f3, f6, f7, f8, rfl⟩ J hJ
  have hbd : ∀ k : Nat, k < xs.length → H1.rd (blk v) (ofs v + k) = some (.int .u8 xs[k]!.toNat) := fun k hk => hv.read hk
  have hlt : leN (xs.take j) < 2 ^ (8 * j) := by
    have := leN_lt (xs.take j)
    rw [List.length_take, Nat.min_eq_left hj] at this
    rw [Nat.pow_mul]; exact this
  have hb := xs[j]!.toNat_lt
  have hcase : 2 ^ (8 * j) * 256 ≤ 18446744073709551616 ∨ j = xs.length := by
    by_cases h : j = xs.length
    · exact .inr h
    · left
      have : (2 : Nat) ^ (8 * j) ≤ 2 ^ 56 := Nat.pow_le_pow_right (by decide) (by omega)
      omega
  have hmul : xs[j]!.toNat * 2 ^ (8 * j) ≤ 255 * 2 ^ (8 * j) := Nat.mul_le_mul_right _ (by omega)
  have hs1 : j < xs.length → ∀ e k', gbin .shl e (.int .u64 (xs[j]!.toNat : Int)) (.int k' (8 * (j : Int))) = some (.int .u64 ((xs[j]!.toNat * 2 ^ (8 * j) : Nat) : Int)) := fun hjl e k' => by
    have := gb_shl (e := e) (k := .u64) (k' := k') (a := xs[j]!.toNat) (s := 8 * j) (by show 8 * j ≤ 64; omega)
    rw [wrap_u64n (by omega)] at this
    simpa using this
  have hs2 : j < xs.length → ∀ e, gbin .or e (.int .u64 ((leN (xs.take j) : Nat) : Int)) (.int .u64 ((xs[j]!.toNat * 2 ^ (8 * j) : Nat) : Int)) = some (.int .u64 ((leN (xs.take (j + 1)) : Nat) : Int)) := fun hjl e => by
    rw [gb_or64 (by omega) (by omega)]
    congr 3
    rw [Nat.or_comm, ← Nat.shiftLeft_eq, ← Nat.shiftLeft_add_eq_or_of_lt hlt, Nat.shiftLeft_eq, List.take_succ_eq_append_getElem hjl, leN_append, List.length_take, Nat.min_eq_left hj, ← getElem!_pos xs j hjl]
    simp only [leN, Nat.mul_zero, Nat.add_zero]
    rw [Nat.pow_mul, show (2 : Nat) ^ 8 = 256 from by decide, Nat.mul_comm]
    omega
  repeat' (first | refine zn ?_ | refine zK rfl ?_ | refine zP rfl ?_ | ((first | refine zm ?_ | skip); intro _; intros; simp (disch := first | exact zd | fail) only [↓yS, yT, gresults, gone, ↓reduceIte, Nat.reduceEqDiff, Nat.reduceAdd, Nat.reduceMul, reduceCtorEq, Int.reduceToNat, g60, f3, f6, f7, f8, hsl.len, hsl.ia, hbd, u64_byte, hs1, hs2]; first | (rename_i K k; (first | refine yC (k _ _ ?_) | refine zg (k _ ?_)); clear k K) | (rename_i A B C D a b c d; (first | refine zx (a ?_) | refine zy (b ?_) | refine zz (fun hc => c ?_) (fun hc => d ?_) | refine zv (b ?_) | refine zw (a ?_)) <;> clear a b c d A B C D <;> try simp only [yL] at hc)) | refine zA ?_ | refine zB ?_ | refine zF ?_)
  case refine_1.refine_1 =>
    refine hJ _ _ ⟨xs.length - (j + 1), by omega, j + 1, by omega, rfl, ?_⟩
    simp only [↓yG, Nat.reduceEqDiff, ↓reduceIte, Int.natCast_add, Int.cast_ofNat_Int, Int.natCast_zero, true_and, and_true, Option.some.injEq, Value.int.injEq, f6, f7]
  case refine_1.refine_2 =>
    refine hPost _ _ ⟨?_, rfl⟩
    rw [List.take_of_length_le (by omega)]
end Go.Gh
