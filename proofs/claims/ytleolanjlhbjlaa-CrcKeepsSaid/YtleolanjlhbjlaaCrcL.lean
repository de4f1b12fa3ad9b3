/-
  The walks of the laws CrcSums, CrcGoesOn, CrcTexts.
-/
import Derived.Test.YtleolanjlhbjlaaCrcA
import Derived.Test.YtleolanjlhbjlaaCrcT2
import Derived.Test.YtleolanjlhbjlaaRow
namespace Go.Proofs.Ytleolanjlhbjlaa
open Go.RowKit

theorem bits_xor_self (m r : Int) (h : 0 ≤ r) (h1 : r < 4294967296) (h2 : 0 ≤ m) (h3 : m < 4294967296) : bits .xor .u32 m (bits .xor .u32 m r) = r := by
  rw [u32_xor m r h2 h3 h h1]
  have hx : m.toNat ^^^ r.toNat < 2 ^ 32 := Nat.xor_lt_two_pow (by omega) (by omega)
  rw [u32_xor m _ h2 h3 (by omega) (by omega)]
  rw [show ((m.toNat ^^^ r.toNat : Nat) : Int).toNat = m.toNat ^^^ r.toNat from by omega, ← Nat.xor_assoc, Nat.xor_self, Nat.zero_xor]
  omega
theorem inv32_inv32 (r : Int) (h : 0 ≤ r) (h1 : r < 4294967296) : inv32 (inv32 r) = r := bits_xor_self _ r h h1 (by decide) (by decide)
theorem step1_range (r : Int) (h : 0 ≤ r ∧ r < 4294967296) : 0 ≤ step1 r ∧ step1 r < 4294967296 := by
  unfold step1
  split
  · exact bits_u32_range _ _ _ (by simp)
  · omega
theorem repeat_range : ∀ (k : Nat) (r : Int), (0 ≤ r ∧ r < 4294967296) → 0 ≤ Nat.repeat step1 k r ∧ Nat.repeat step1 k r < 4294967296
  | 0, _, h => h
  | k + 1, r, h => step1_range _ (repeat_range k r h)
theorem crcReg_range (xs : List UInt8) : ∀ r : Int, (0 ≤ r ∧ r < 4294967296) → 0 ≤ crcReg r xs ∧ crcReg r xs < 4294967296 := by
  induction xs with
  | nil => intro r h; exact h
  | cons x xs ih => intro r _; exact ih _ (repeat_range 8 _ (bits_u32_range _ _ _ (by simp)))
theorem crcUpd_append (s : Int) (a b : List UInt8) : crcUpd (crcUpd s a) b = crcUpd s (a ++ b) := by
  unfold crcUpd
  have h := crcReg_range a (inv32 s) (inv32_range s)
  rw [inv32_inv32 _ h.1 h.2]
  unfold crcReg
  rw [List.foldl_append]

set_option maxHeartbeats 400000 in
theorem crcSums_walk (a0 : Option Addr) (len0 cap0 : Nat) (z0 : List Int) (a1 : Int) (w : World) (w0 : IsRow .u8 w a0 len0 cap0 z0) (_w1 : (Lit.int .u32 a1).wf = true) :
    Calls Try.prog 3 #[.slice a0 len0 cap0, .int .u32 a1] w fun e w' => e = .returned (.bool true) ∧ Below w.heap.size w w' := by
  obtain ⟨xs, hr, hl, hc, hm⟩ := w0.bytes
  have hr3 : Rd w w.heap.size 1 a0 (min len0 300) (U8s (xs.take (min len0 300))) := by
    have := hr.pre (m := min len0 300) (by omega)
    simpa [U8s, List.map_take] using this
  have Hr := Lib.hid hr
  have Hr3 := Lib.hid hr3
  clear hr hr3 w0 _w1
  have hn : min len0 300 ≤ 300 := by omega
  have hc1 : (crcSum (xs.take (min len0 300)) == crcSum (xs.take (min len0 300))) = true := by simp
  have hc2 : (crcUpd a1 (xs.take (min len0 300)) == crcUpd a1 (xs.take (min len0 300))) = true := by simp
  generalize hys : xs.take (min len0 300) = ys at *
  generalize hn3 : min len0 300 = n at *
  have Hn := Lib.hid hn3
  clear hys hn3
  go_enter Try.func3, Try.ntmps3
  go_wp2_with (first
    | (go_at_call 10; refine (awake_any _).mono ?_; rintro e w1 ⟨rfl, hl1⟩)
    | (go_at_call 11; refine (cut_any a0 len0 cap0 _ _ w.heap.size (Hr.out.below hl1) hc (by omega)).mono ?_; rintro e w2 ⟨rfl, rfl⟩; rw [Hn.out])
    | (go_at_call 12; refine (sum_any a0 n cap0 ys _ w.heap.size (Hr3.out.below hl1) (by omega)).mono ?_; rintro e w2 ⟨rfl, rfl⟩)
    | (go_at_call 13; refine (rsum_any a0 n cap0 ys _ w.heap.size (Hr3.out.below hl1) (by omega)).mono ?_; rintro e w2 ⟨rfl, rfl⟩)
    | (go_at_call 14; refine (update_any a1 a0 n cap0 ys _ w.heap.size (Hr3.out.below hl1) (by omega)).mono ?_; rintro e w2 ⟨rfl, rfl⟩)
    | (go_at_call 15; refine (rupdate_any a1 a0 n cap0 ys _ w.heap.size (Hr3.out.below hl1) (by omega)).mono ?_; rintro e w2 ⟨rfl, rfl⟩))
  go_ret
  exact ⟨rfl, hl1⟩

theorem pre300 {w : World} {B : Nat} {a : Option Addr} {len : Nat} {xs : List UInt8} (hr : Rd w B 1 a len (U8s xs)) : Rd w B 1 a (min len 300) (U8s (xs.take (min len 300))) := by
  have := hr.pre (m := min len 300) (by omega)
  simpa [U8s, List.map_take] using this

set_option maxHeartbeats 400000 in
theorem crcGoesOn_walk (a0 : Option Addr) (len0 cap0 : Nat) (z0 : List Int) (a1 : Option Addr) (len1 cap1 : Nat) (z1 : List Int) (w : World) (w0 : IsRow .u8 w a0 len0 cap0 z0) (w1 : IsRow .u8 w a1 len1 cap1 z1) :
    Calls Try.prog 4 #[.slice a0 len0 cap0, .slice a1 len1 cap1] w fun e w' => e = .returned (.bool true) ∧ Below w.heap.size w w' := by
  obtain ⟨xs, hr, hl, hc, hm⟩ := w0.bytes
  obtain ⟨xt, ht, hlt, hct, hmt⟩ := w1.bytes
  have hr3 := pre300 hr
  have ht3 := pre300 ht
  obtain ⟨i0, hi0, hz0, hz1, hz2⟩ := info_parts u8info
  have Hr := Lib.hid hr
  have Hr3 := Lib.hid hr3
  have Ht := Lib.hid ht
  have Ht3 := Lib.hid ht3
  clear hr hr3 w0 ht ht3 w1
  have hn : min len0 300 ≤ 300 := by omega
  have hnt : min len1 300 ≤ 300 := by omega
  have hlx : (xs.take (min len0 300)).length = min len0 300 := by simp; omega
  have hly : (xt.take (min len1 300)).length = min len1 300 := by simp; omega
  generalize hys : xs.take (min len0 300) = ys at *
  generalize hzs : xt.take (min len1 300) = zs at *
  generalize hn3 : min len0 300 = n at *
  generalize hm3 : min len1 300 = m at *
  have hc1 : (crcUpd (crcSum ys) zs == crcSum (ys ++ zs)) = true := by rw [crcSum, crcUpd_append]; simp [crcSum]
  have Hn := Lib.hid hn3
  have Hm := Lib.hid hm3
  have Hlx := Lib.hid hlx
  have Hly := Lib.hid hly
  clear hys hn3 hzs hm3 hlx hly
  go_enter Try.func4, Try.ntmps4
  go_wp2_with (go_at_call 10; refine (awake_any _).mono ?_; rintro e w1 ⟨rfl, hl1⟩)
  go_wp2_with fail
  refine (cut_any a0 len0 cap0 _ _ w.heap.size (Hr.out.below hl1) hc (by omega)).mono ?_
  rintro e w2 ⟨rfl, rfl⟩
  rw [Hn.out]
  go_wp2_with fail
  refine (cut_any a1 len1 cap1 _ _ w.heap.size (Ht.out.below hl1) hct (by omega)).mono ?_
  rintro e w2 ⟨rfl, rfl⟩
  rw [Hm.out]
  go_wp2_with fail
  refine (sum_any a0 n cap0 ys _ w.heap.size (Hr3.out.below hl1) (by omega)).mono ?_
  rintro e w2 ⟨rfl, rfl⟩
  have hw1 := hl1.size
  go_wp2_with (first
    | (go_at_call 14; refine (update_any _ a1 m cap1 zs _ w.heap.size (Ht3.out.below hl1) (by omega)).mono ?_; rintro e w2 ⟨rfl, rfl⟩)
    | (at_builtin; refine wpList_append_rd _ rfl (.tmp 15) (.tmp 16) _ rfl w.heap.size 5 i0 _ 1 1 Try.underlying22 hi0 hz0 hz1 hz2 rfl (by omega) (.slice (some ⟨w1.heap.size, 0, none⟩) 0 0) 0 [] rfl (World.ownsRow_made _ #[] 0 hw1 (by unfold maxLen; omega) rfl) w.heap.size a0 n cap0 (U8s ys) rfl ((Hr3.out.below hl1).alloc hw1 _) (U8s_one _) (by unfold maxLen; omega) (by omega) (Nat.le_trans hw1 (by simp)) ?_; intro A2 c2 w2 hown2 _ _ hb2; simp only [Nat.zero_add, List.nil_append] at hown2)
    | (at_builtin; have hbb2 : Below w.heap.size w w2 := (Below.alloc hl1 hw1 _).trans hb2; refine wpList_append_rd _ rfl (.tmp 17) (.tmp 18) _ rfl w.heap.size 5 i0 _ 1 1 Try.underlying22 hi0 hz0 hz1 hz2 rfl (by omega) _ n (U8s ys) rfl hown2 w.heap.size a1 m cap1 (U8s zs) rfl (Ht3.out.below hbb2) (U8s_one _) (by unfold maxLen; omega) (by omega) hbb2.size ?_; intro A3 c3 w3 hown3 _ _ hb3)
    | (go_at_call 12; have hr9 : Rd w3 w3.heap.size 1 A3 (n + m) (U8s (ys ++ zs)) := (by have := Rd.of_own hown3; simpa [U8s] using this); refine (sum_any A3 (n + m) c3 (ys ++ zs) _ _ hr9 (by omega)).mono ?_; rintro e w4 ⟨rfl, rfl⟩))
  go_ret
  exact ⟨rfl, ((Below.alloc hl1 hw1 _).trans hb2).trans hb3⟩

theorem hexd_val (v : Int) (h0 : 0 ≤ v) (h1 : v < 16) : hval (hexd v).toNat = v := by
  have := (hval_is ((hexd v).toNat) v.toNat (by omega))
  rw [show ((v.toNat : Nat) : Int) = v from by omega] at this
  exact this.1 rfl
theorem textF_len (s : Int) : (textF s).length = 8 := by simp [textF]
theorem textF_ok (s : Int) : hok (textF s) = true := by
  unfold hok textF
  rw [List.all_eq_true]
  intro c hc
  obtain ⟨k, _, rfl⟩ := List.mem_map.1 hc
  have := nib_range s k
  rw [hexd_val _ this.1 this.2]
  simpa using this.1
theorem hnum_text (s : Int) (h0 : 0 ≤ s) (h1 : s < 4294967296) : hnum (textF s) = s := by
  have hn : ∀ k, hval (hexd (nib s k)).toNat = nib s k := fun k => hexd_val _ (nib_range s k).1 (nib_range s k).2
  show List.foldl _ _ [hexd (nib s 0), hexd (nib s 1), hexd (nib s 2), hexd (nib s 3), hexd (nib s 4), hexd (nib s 5), hexd (nib s 6), hexd (nib s 7)] = s
  simp only [List.foldl_cons, List.foldl_nil, hn]
  unfold nib
  simp only [Nat.mul_zero, Nat.sub_zero, Nat.reduceMul, Nat.reduceSub]
  simp only [Int.reducePow]
  omega

theorem textF_parse (s : Int) (h0 : 0 ≤ s) (h1 : s < 4294967296) : parseF (textF s) = (s, 0) := by
  unfold parseF
  rw [if_pos ⟨textF_len s, textF_ok s⟩, hnum_text s h0 h1]
theorem val_hexd (c : UInt8) (h : 0 ≤ hval c.toNat) : hexd (hval c.toNat) = c := by
  have h1 := hval_le c.toNat
  have := (hval_is c.toNat (hval c.toNat).toNat (by omega)).2 (by omega)
  rw [show (((hval c.toNat).toNat : Nat) : Int) = hval c.toNat from by omega] at this
  rw [← UInt8.toNat_inj]
  omega
theorem text_parse (l : List UInt8) (h : (parseF l).2 = 0) : textF (parseF l).1 = l := by
  unfold parseF at h ⊢
  split at h
  · rename_i hh
    rw [if_pos hh]
    obtain ⟨h8, hgood⟩ := hh
    match l, h8 with
    | [c0, c1, c2, c3, c4, c5, c6, c7], _ =>
      simp only [hok, List.all_cons, List.all_nil, Bool.and_true, Bool.and_eq_true, decide_eq_true_eq] at hgood
      obtain ⟨k0, k1, k2, k3, k4, k5, k6, k7⟩ := hgood
      show [hexd (nib _ 0), hexd (nib _ 1), hexd (nib _ 2), hexd (nib _ 3), hexd (nib _ 4), hexd (nib _ 5), hexd (nib _ 6), hexd (nib _ 7)] = _
      have b0 := hval_le c0.toNat
      have b1 := hval_le c1.toNat
      have b2 := hval_le c2.toNat
      have b3 := hval_le c3.toNat
      have b4 := hval_le c4.toNat
      have b5 := hval_le c5.toNat
      have b6 := hval_le c6.toNat
      have b7 := hval_le c7.toNat
      have hN : hnum [c0, c1, c2, c3, c4, c5, c6, c7] = 16 * (16 * (16 * (16 * (16 * (16 * (16 * (16 * 0 + hval c0.toNat) + hval c1.toNat) + hval c2.toNat) + hval c3.toNat) + hval c4.toNat) + hval c5.toNat) + hval c6.toNat) + hval c7.toNat := rfl
      rw [hN]
      have e0 := val_hexd c0 k0
      have e1 := val_hexd c1 k1
      have e2 := val_hexd c2 k2
      have e3 := val_hexd c3 k3
      have e4 := val_hexd c4 k4
      have e5 := val_hexd c5 k5
      have e6 := val_hexd c6 k6
      have e7 := val_hexd c7 k7
      generalize hval c0.toNat = v0 at *
      generalize hval c1.toNat = v1 at *
      generalize hval c2.toNat = v2 at *
      generalize hval c3.toNat = v3 at *
      generalize hval c4.toNat = v4 at *
      generalize hval c5.toNat = v5 at *
      generalize hval c6.toNat = v6 at *
      generalize hval c7.toNat = v7 at *
      unfold nib
      simp only [Nat.mul_zero, Nat.sub_zero, Nat.reduceMul, Nat.reduceSub, Int.reducePow]
      rw [← e0, ← e1, ← e2, ← e3, ← e4, ← e5, ← e6, ← e7]
      congr 1
      · congr 1; omega
      congr 1
      · congr 1; omega
      congr 1
      · congr 1; omega
      congr 1
      · congr 1; omega
      congr 1
      · congr 1; omega
      congr 1
      · congr 1; omega
      congr 1
      · congr 1; omega
      congr 1
      congr 1; omega
  · cases h
theorem parseF_range (l : List UInt8) : 0 ≤ (parseF l).1 ∧ (parseF l).1 < 4294967296 := by
  unfold parseF
  split
  · rename_i h
    have := hnum_range 8 l h.1 h.2
    simpa using this
  · simp

theorem str_of (S : ByteArray) : (⟨S.data.toList.toArray⟩ : ByteArray) = S := by cases S; simp

set_option maxRecDepth 100000 in
set_option maxHeartbeats 800000 in
theorem crcTexts_walk (a0 : Int) (a1 : ByteArray) (w0 : (Lit.int .u32 a0).wf = true) (w1 : a1.size ≤ maxLen) (w : World) :
    Calls Try.prog 5 #[.int .u32 a0, .string a1] w fun e w' => e = .returned (.bool true) ∧ Below w.heap.size w w' := by
  unfold maxLen at w1
  obtain ⟨h0, h1⟩ : 0 ≤ a0 ∧ a0 < 4294967296 := by
    simp only [Lit.wf, IntKind.min, IntKind.max, IntKind.signed, IntKind.bits, Bool.and_eq_true] at w0
    simp at w0
    omega
  clear w0
  have HP := Lib.hid (textF_parse a0 h0 h1)
  go_enter Try.func5, Try.ntmps5
  go_wp2_with (go_at_call 10; refine (awake_any _).mono ?_; rintro e w2 ⟨rfl, hl1⟩)
  case' inl =>
    have hS : (a1.extract 0 20).size ≤ 4611686018427387904 := by simp; omega
    clear w1
    generalize a1.extract 0 20 = S at *
  case' inr =>
    have hS : a1.size ≤ 4611686018427387904 := by omega
    clear w1
    generalize a1 = S at *
  all_goals
    have hR := parseF_range S.data.toList
    obtain ⟨hR0, hR1⟩ := hR
    have HT := Lib.hid (text_parse S.data.toList)
    generalize hq : (parseF S.data.toList).1 = q at *
    generalize hf : (parseF S.data.toList).2 = f at *
    have Hq := Lib.hid hq
    have Hf := Lib.hid hf
    clear hq hf
    refine (text_any a0 _ h0 h1).mono ?_
    rintro e w3 ⟨rfl, hl2⟩
    go_wp2_with fail
    refine (parse_any ⟨(textF a0).toArray⟩ _ (by simp [ByteArray.size, textF_len])).mono ?_
    rintro e w4 ⟨rfl, rfl⟩
    rw [show parseF (ByteArray.mk (textF a0).toArray).data.toList = (a0, 0) from HP.out]
    go_wp2_with fail
    refine (parse_any S _ hS).mono ?_
    rintro e w4 ⟨rfl, rfl⟩
    rw [Hq.out, Hf.out]
    go_wp2_with fail
    refine (rparse_any S _ hS).mono ?_
    rintro e w4 ⟨rfl, hl3⟩
    rw [Hq.out, Hf.out]
    by_cases hz : f = 0
    · have hb : (f != 0) = false := by simp [hz]
      have HE := Lib.hid (HT.out hz)
      clear hz
      go_wp2_with fail
      refine (text_any a0 _ h0 h1).mono ?_
      rintro e w5 ⟨rfl, hl4⟩
      go_wp2_with fail
      refine (rtext_any a0 _ h0 h1).mono ?_
      rintro e w6 ⟨rfl, hl5⟩
      go_wp2_with fail
      refine (text_any q _ hR0 hR1).mono ?_
      rintro e w7 ⟨rfl, hl6⟩
      rw [HE.out, str_of]
      go_wp2
      go_ret
      exact ⟨rfl, ((((hl1.trans hl2).trans hl3).trans hl4).trans hl5).trans hl6⟩
    · have hb : (f != 0) = true := by simp [hz]
      clear hz
      go_wp2_with fail
      refine (text_any a0 _ h0 h1).mono ?_
      rintro e w5 ⟨rfl, hl4⟩
      go_wp2_with fail
      refine (rtext_any a0 _ h0 h1).mono ?_
      rintro e w6 ⟨rfl, hl5⟩
      go_wp2
      go_ret
      exact ⟨rfl, (((hl1.trans hl2).trans hl3).trans hl4).trans hl5⟩
end Go.Proofs.Ytleolanjlhbjlaa
