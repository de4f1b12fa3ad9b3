/-
  The walk of the law CrcSeals.
-/
import Derived.Test.YtleolanjlhbjlaaCrcL
import Derived.Test.YtleolanjlhbjlaaCrcW4
namespace Go.Proofs.Ytleolanjlhbjlaa
open Go.RowKit

theorem openF_sealF (ys : List UInt8) : openF (sealF ys) = (ys, 0) := by
  have h : (sealF ys).length = ys.length + 4 := by simp [sealF, le4]
  have ht : (sealF ys).take ys.length = ys := by simp [sealF]
  rw [openF_seal _ ys.length h, ht]
  simp

set_option maxRecDepth 100000 in
set_option maxHeartbeats 1000000 in
theorem crcSeals_walk (a0 : Option Addr) (len0 cap0 : Nat) (z0 : List Int) (w : World) (w0 : IsRow .u8 w a0 len0 cap0 z0) :
    Calls Try.prog 6 #[.slice a0 len0 cap0] w fun e w' => e = .returned (.bool true) ∧ Below w.heap.size w w' := by
  obtain ⟨xs, hr, hl, hc, hm⟩ := w0.bytes
  have hr3 := pre300 hr
  have Hr := Lib.hid hr
  have hn : min len0 300 ≤ 300 := by omega
  have hnc : min len0 300 ≤ cap0 := by omega
  have hlx : (xs.take (min len0 300)).length = min len0 300 := by simp; omega
  generalize hys : xs.take (min len0 300) = ys at *
  generalize hn3 : min len0 300 = n at *
  have Hn := Lib.hid hn3
  have Hr3 := Lib.hid hr3
  have Hlx := Lib.hid hlx
  clear hr hr3 w0 hys hn3 hlx
  go_enter Try.func6, Try.ntmps6
  go_wp2_with (go_at_call 10; refine (awake_any _).mono ?_; rintro e W1 ⟨rfl, hl1⟩)
  go_wp2_with fail
  refine (cut_any a0 len0 cap0 _ _ w.heap.size (Hr.out.below hl1) hc (by omega)).mono ?_
  rintro e W2 ⟨rfl, rfl⟩
  rw [Hn.out]
  have HR1 := Lib.hid (Hr3.out.up hl1)
  go_wp2_with fail
  refine (open_any a0 n cap0 ys _ HR1.out hnc (by omega)).mono ?_
  rintro e W2 ⟨Aq, cq, rfl, hownq, hl2⟩
  have HQ1 := Lib.hid (Rd.of_own hownq)
  have HR2 := Lib.hid (HR1.out.up hl2)
  clear hownq
  go_wp2_with fail
  refine (ropen_any a0 n cap0 ys _ HR2.out hnc (by omega)).mono ?_
  rintro e W3 ⟨Ar, cr, rfl, hownr, hl3⟩
  have HV1 := Lib.hid (Rd.of_own hownr)
  have HR3 := Lib.hid (HR2.out.up hl3)
  clear hownr
  go_wp2_with fail
  refine (seal_any a0 n cap0 ys _ HR3.out (by omega)).mono ?_
  rintro e W4 ⟨At, ct, rfl, hownt, hl4⟩
  have HT := Lib.hid (Rd.of_own hownt)
  have hct := own_cap hownt
  clear hownt
  go_wp2_with fail
  refine (open_any At (n + 4) ct (sealF ys) _ HT.out hct (by omega)).mono ?_
  rintro e W5 ⟨As, cs, rfl, howns, hl5⟩
  rw [openF_sealF] at howns ⊢
  simp only at howns ⊢
  rw [Hlx.out] at howns ⊢
  have HS := Lib.hid (Rd.of_own howns)
  have HR := Lib.hid ((HR3.out.up hl4).up hl5)
  have HQ := Lib.hid (((HQ1.out.up hl3).up hl4).up hl5)
  have HV := Lib.hid ((HV1.out.up hl4).up hl5)
  have HL := Lib.hid ((((hl1.trans hl2).trans hl3).trans hl4).trans hl5)
  clear howns HT hl2 hl3 hl4 hl5
  go_wp2
  refine wp_region_facts [Fact.is (.slice a0 n cap0), Fact.rd 1 (n + 4) (U8s (sealF ys)), Fact.is (.string ⟨((sealF ys)).toArray⟩), Fact.is (.slice a0 n cap0), Fact.rd 1 (n + 4) (U8s (sealF ys)), Fact.is (.string ⟨((sealF ys)).toArray⟩), Fact.is (.bool true), Fact.is (.bool true), Fact.is (.slice Aq ((openF ys).1.length) cq), Fact.is (.string ⟨((openF ys).1).toArray⟩), Fact.is (.slice Ar ((openF ys).1.length) cr), Fact.is (.string ⟨((openF ys).1).toArray⟩), Fact.is (.bool true), Fact.is (.bool true), Fact.is (.bool true), Fact.is (.int .i64 (openF ys).2), Fact.is (.int .i64 (openF ys).2), Fact.is (.bool true), Fact.is (.bool true), Fact.is (.bool true), Fact.is (.slice As n cs), Fact.is (.string ⟨ys.toArray⟩), Fact.is (.slice a0 n cap0), Fact.is (.string ⟨ys.toArray⟩), Fact.is (.bool true), Fact.is (.bool true), Fact.is (.bool true), Fact.is (.int .i64 0), Fact.is (.bool true), Fact.is (.bool true), Fact.is (.bool true)] _ _ mixed (by kernel_rfl) (sz_of (n := 59) (by kernel_rfl)) ?_ ?_
  · intro i o ho a w1 hl _ hs K hK
    match i, ho with
    | 0, ho =>
      obtain rfl := Option.some.inj ho
      have s0 : a.tmps.getD 0 undef = .slice a0 n cap0 := sees_init hs 0 (by kernel_rfl)
      exact wpOp_plain ho rfl (wp_move _ (.inl rfl) s0 (hK _ _ (Le.refl _) rfl))
    | 1, ho =>
      obtain rfl := Option.some.inj ho
      have s29 : a.tmps.getD 29 undef = .slice a0 n cap0 := sees_dep hs 29 0 (by kernel_rfl)
      refine wpOp_plain ho rfl (wp_call 22 _ _ rfl (by kernel_rfl) (args := #[.slice a0 n cap0]) (by simp only [List.map_toArray, List.map_cons, List.map_nil, Act.eval, s29]) ?_)
      refine (seal_any a0 n cap0 ys w1 (HR.out.up hl) (by omega)).mono ?_
      rintro e w2 ⟨A', c', rfl, hown, hl2⟩
      exact ⟨_, rfl, hK _ _ hl2 ⟨A', c', rfl, own_cap hown, Rd.of_own hown⟩⟩
    | 2, ho =>
      obtain rfl := Option.some.inj ho
      obtain ⟨A30, c30, s30, hc30, hr30⟩ : ∃ A c, a.tmps.getD 30 undef = .slice A (n + 4) c ∧ (n + 4) ≤ c ∧ Rd w1 w1.heap.size 1 A (n + 4) (U8s (sealF ys)) := sees_dep hs 30 1 (by kernel_rfl)
      exact wpOp_plain ho rfl (wp_bytes_string _ _ _ rfl 5 Try.underlying22 Try.underlying5 Try.underlying9 _ _ _ _ _ s30 hr30 (hK _ _ (Le.refl _) rfl))
    | 3, ho =>
      obtain rfl := Option.some.inj ho
      have s0 : a.tmps.getD 0 undef = .slice a0 n cap0 := sees_init hs 0 (by kernel_rfl)
      exact wpOp_plain ho rfl (wp_move _ (.inl rfl) s0 (hK _ _ (Le.refl _) rfl))
    | 4, ho =>
      obtain rfl := Option.some.inj ho
      have s32 : a.tmps.getD 32 undef = .slice a0 n cap0 := sees_dep hs 32 3 (by kernel_rfl)
      refine wpOp_plain ho rfl (wp_call 23 _ _ rfl (by kernel_rfl) (args := #[.slice a0 n cap0]) (by simp only [List.map_toArray, List.map_cons, List.map_nil, Act.eval, s32]) ?_)
      refine (rseal_any a0 n cap0 ys w1 (HR.out.up hl) (by omega)).mono ?_
      rintro e w2 ⟨A', c', rfl, hown, hl2⟩
      exact ⟨_, rfl, hK _ _ hl2 ⟨A', c', rfl, own_cap hown, Rd.of_own hown⟩⟩
    | 5, ho =>
      obtain rfl := Option.some.inj ho
      obtain ⟨A33, c33, s33, hc33, hr33⟩ : ∃ A c, a.tmps.getD 33 undef = .slice A (n + 4) c ∧ (n + 4) ≤ c ∧ Rd w1 w1.heap.size 1 A (n + 4) (U8s (sealF ys)) := sees_dep hs 33 4 (by kernel_rfl)
      exact wpOp_plain ho rfl (wp_bytes_string _ _ _ rfl 5 Try.underlying22 Try.underlying5 Try.underlying9 _ _ _ _ _ s33 hr33 (hK _ _ (Le.refl _) rfl))
    | 6, ho =>
      obtain rfl := Option.some.inj ho
      have s31 : a.tmps.getD 31 undef = .string ⟨((sealF ys)).toArray⟩ := sees_dep hs 31 2 (by kernel_rfl)
      have s34 : a.tmps.getD 34 undef = .string ⟨((sealF ys)).toArray⟩ := sees_dep hs 34 5 (by kernel_rfl)
      exact wpOp_plain ho rfl (wp_bin _ _ _ _ _ rfl s31 s34 ((run_str_eql _ _ _ _ _).trans (by simp)) (hK _ _ (Le.refl _) rfl))
    | 7, ho =>
      obtain rfl := Option.some.inj ho
      have s35 : a.tmps.getD 35 undef = .bool true := sees_dep hs 35 6 (by kernel_rfl)
      exact wpOp_plain ho rfl (wp_move _ (.inl rfl) s35 (hK _ _ (Le.refl _) rfl))
    | 8, ho =>
      obtain rfl := Option.some.inj ho
      have sg : a.tmps.getD 36 undef = .bool true := sees_dep hs 36 7 (by kernel_rfl)
      have s3 : a.tmps.getD 3 undef = .slice Aq ((openF ys).1.length) cq := sees_init hs 3 (by kernel_rfl)
      exact wpOp_on ho rfl rfl rfl sg (wp_move _ (.inl rfl) s3 (hK _ _ (Le.refl _) rfl))
    | 9, ho =>
      obtain rfl := Option.some.inj ho
      have sg : a.tmps.getD 36 undef = .bool true := sees_dep hs 36 7 (by kernel_rfl)
      have s37 : a.tmps.getD 37 undef = .slice Aq ((openF ys).1.length) cq := sees_dep hs 37 8 (by kernel_rfl)
      exact wpOp_on ho rfl rfl rfl sg (wp_bytes_string _ _ _ rfl 5 Try.underlying22 Try.underlying5 Try.underlying9 _ _ _ _ _ s37 (HQ.out.up hl) (hK _ _ (Le.refl _) rfl))
    | 10, ho =>
      obtain rfl := Option.some.inj ho
      have sg : a.tmps.getD 36 undef = .bool true := sees_dep hs 36 7 (by kernel_rfl)
      have s5 : a.tmps.getD 5 undef = .slice Ar ((openF ys).1.length) cr := sees_init hs 5 (by kernel_rfl)
      exact wpOp_on ho rfl rfl rfl sg (wp_move _ (.inl rfl) s5 (hK _ _ (Le.refl _) rfl))
    | 11, ho =>
      obtain rfl := Option.some.inj ho
      have sg : a.tmps.getD 36 undef = .bool true := sees_dep hs 36 7 (by kernel_rfl)
      have s39 : a.tmps.getD 39 undef = .slice Ar ((openF ys).1.length) cr := sees_dep hs 39 10 (by kernel_rfl)
      exact wpOp_on ho rfl rfl rfl sg (wp_bytes_string _ _ _ rfl 5 Try.underlying22 Try.underlying5 Try.underlying9 _ _ _ _ _ s39 (HV.out.up hl) (hK _ _ (Le.refl _) rfl))
    | 12, ho =>
      obtain rfl := Option.some.inj ho
      have sg : a.tmps.getD 36 undef = .bool true := sees_dep hs 36 7 (by kernel_rfl)
      have s38 : a.tmps.getD 38 undef = .string ⟨((openF ys).1).toArray⟩ := sees_dep hs 38 9 (by kernel_rfl)
      have s40 : a.tmps.getD 40 undef = .string ⟨((openF ys).1).toArray⟩ := sees_dep hs 40 11 (by kernel_rfl)
      exact wpOp_on ho rfl rfl rfl sg (wp_bin _ _ _ _ _ rfl s38 s40 ((run_str_eql _ _ _ _ _).trans (by simp)) (hK _ _ (Le.refl _) rfl))
    | 13, ho =>
      obtain rfl := Option.some.inj ho
      have s36 : a.tmps.getD 36 undef = .bool true := sees_dep hs 36 7 (by kernel_rfl)
      have s41 : a.tmps.getD 41 undef = .bool true := sees_dep hs 41 12 (by kernel_rfl)
      exact wpOp_plain ho rfl (wp_pick _ _ _ rfl s36 (by simp only [if_true]; exact s41) (hK _ _ (Le.refl _) rfl))
    | 14, ho =>
      obtain rfl := Option.some.inj ho
      have s42 : a.tmps.getD 42 undef = .bool true := sees_dep hs 42 13 (by kernel_rfl)
      exact wpOp_plain ho rfl (wp_move _ (.inl rfl) s42 (hK _ _ (Le.refl _) rfl))
    | 15, ho =>
      obtain rfl := Option.some.inj ho
      have sg : a.tmps.getD 43 undef = .bool true := sees_dep hs 43 14 (by kernel_rfl)
      have s4 : a.tmps.getD 4 undef = .int .i64 (openF ys).2 := sees_init hs 4 (by kernel_rfl)
      exact wpOp_on ho rfl rfl rfl sg (wp_move _ (.inl rfl) s4 (hK _ _ (Le.refl _) rfl))
    | 16, ho =>
      obtain rfl := Option.some.inj ho
      have sg : a.tmps.getD 43 undef = .bool true := sees_dep hs 43 14 (by kernel_rfl)
      have s6 : a.tmps.getD 6 undef = .int .i64 (openF ys).2 := sees_init hs 6 (by kernel_rfl)
      exact wpOp_on ho rfl rfl rfl sg (wp_move _ (.inl rfl) s6 (hK _ _ (Le.refl _) rfl))
    | 17, ho =>
      obtain rfl := Option.some.inj ho
      have sg : a.tmps.getD 43 undef = .bool true := sees_dep hs 43 14 (by kernel_rfl)
      have s44 : a.tmps.getD 44 undef = .int .i64 (openF ys).2 := sees_dep hs 44 15 (by kernel_rfl)
      have s45 : a.tmps.getD 45 undef = .int .i64 (openF ys).2 := sees_dep hs 45 16 (by kernel_rfl)
      exact wpOp_on ho rfl rfl rfl sg (wp_bin _ _ _ _ _ rfl s44 s45 ((run_int_eql _ _ _ _ _ _).trans (by simp)) (hK _ _ (Le.refl _) rfl))
    | 18, ho =>
      obtain rfl := Option.some.inj ho
      have s43 : a.tmps.getD 43 undef = .bool true := sees_dep hs 43 14 (by kernel_rfl)
      have s46 : a.tmps.getD 46 undef = .bool true := sees_dep hs 46 17 (by kernel_rfl)
      exact wpOp_plain ho rfl (wp_pick _ _ _ rfl s43 (by simp only [if_true]; exact s46) (hK _ _ (Le.refl _) rfl))
    | 19, ho =>
      obtain rfl := Option.some.inj ho
      have s47 : a.tmps.getD 47 undef = .bool true := sees_dep hs 47 18 (by kernel_rfl)
      exact wpOp_plain ho rfl (wp_move _ (.inl rfl) s47 (hK _ _ (Le.refl _) rfl))
    | 20, ho =>
      obtain rfl := Option.some.inj ho
      have sg : a.tmps.getD 48 undef = .bool true := sees_dep hs 48 19 (by kernel_rfl)
      have s7 : a.tmps.getD 7 undef = .slice As n cs := sees_init hs 7 (by kernel_rfl)
      exact wpOp_on ho rfl rfl rfl sg (wp_move _ (.inl rfl) s7 (hK _ _ (Le.refl _) rfl))
    | 21, ho =>
      obtain rfl := Option.some.inj ho
      have sg : a.tmps.getD 48 undef = .bool true := sees_dep hs 48 19 (by kernel_rfl)
      have s49 : a.tmps.getD 49 undef = .slice As n cs := sees_dep hs 49 20 (by kernel_rfl)
      exact wpOp_on ho rfl rfl rfl sg (wp_bytes_string _ _ _ rfl 5 Try.underlying22 Try.underlying5 Try.underlying9 _ _ _ _ _ s49 (HS.out.up hl) (hK _ _ (Le.refl _) rfl))
    | 22, ho =>
      obtain rfl := Option.some.inj ho
      have sg : a.tmps.getD 48 undef = .bool true := sees_dep hs 48 19 (by kernel_rfl)
      have s0 : a.tmps.getD 0 undef = .slice a0 n cap0 := sees_init hs 0 (by kernel_rfl)
      exact wpOp_on ho rfl rfl rfl sg (wp_move _ (.inl rfl) s0 (hK _ _ (Le.refl _) rfl))
    | 23, ho =>
      obtain rfl := Option.some.inj ho
      have sg : a.tmps.getD 48 undef = .bool true := sees_dep hs 48 19 (by kernel_rfl)
      have s51 : a.tmps.getD 51 undef = .slice a0 n cap0 := sees_dep hs 51 22 (by kernel_rfl)
      exact wpOp_on ho rfl rfl rfl sg (wp_bytes_string _ _ _ rfl 5 Try.underlying22 Try.underlying5 Try.underlying9 _ _ _ _ _ s51 (HR.out.up hl) (hK _ _ (Le.refl _) rfl))
    | 24, ho =>
      obtain rfl := Option.some.inj ho
      have sg : a.tmps.getD 48 undef = .bool true := sees_dep hs 48 19 (by kernel_rfl)
      have s50 : a.tmps.getD 50 undef = .string ⟨ys.toArray⟩ := sees_dep hs 50 21 (by kernel_rfl)
      have s52 : a.tmps.getD 52 undef = .string ⟨ys.toArray⟩ := sees_dep hs 52 23 (by kernel_rfl)
      exact wpOp_on ho rfl rfl rfl sg (wp_bin _ _ _ _ _ rfl s50 s52 ((run_str_eql _ _ _ _ _).trans (by simp)) (hK _ _ (Le.refl _) rfl))
    | 25, ho =>
      obtain rfl := Option.some.inj ho
      have s48 : a.tmps.getD 48 undef = .bool true := sees_dep hs 48 19 (by kernel_rfl)
      have s53 : a.tmps.getD 53 undef = .bool true := sees_dep hs 53 24 (by kernel_rfl)
      exact wpOp_plain ho rfl (wp_pick _ _ _ rfl s48 (by simp only [if_true]; exact s53) (hK _ _ (Le.refl _) rfl))
    | 26, ho =>
      obtain rfl := Option.some.inj ho
      have s54 : a.tmps.getD 54 undef = .bool true := sees_dep hs 54 25 (by kernel_rfl)
      exact wpOp_plain ho rfl (wp_move _ (.inl rfl) s54 (hK _ _ (Le.refl _) rfl))
    | 27, ho =>
      obtain rfl := Option.some.inj ho
      have sg : a.tmps.getD 55 undef = .bool true := sees_dep hs 55 26 (by kernel_rfl)
      have s8 : a.tmps.getD 8 undef = .int .i64 0 := sees_init hs 8 (by kernel_rfl)
      exact wpOp_on ho rfl rfl rfl sg (wp_move _ (.inl rfl) s8 (hK _ _ (Le.refl _) rfl))
    | 28, ho =>
      obtain rfl := Option.some.inj ho
      have sg : a.tmps.getD 55 undef = .bool true := sees_dep hs 55 26 (by kernel_rfl)
      have s56 : a.tmps.getD 56 undef = .int .i64 0 := sees_dep hs 56 27 (by kernel_rfl)
      exact wpOp_on ho rfl rfl rfl sg (wp_bin _ _ _ _ _ rfl s56 rfl ((run_int_eql _ _ _ _ _ _).trans (by simp)) (hK _ _ (Le.refl _) rfl))
    | 29, ho =>
      obtain rfl := Option.some.inj ho
      have s55 : a.tmps.getD 55 undef = .bool true := sees_dep hs 55 26 (by kernel_rfl)
      have s57 : a.tmps.getD 57 undef = .bool true := sees_dep hs 57 28 (by kernel_rfl)
      exact wpOp_plain ho rfl (wp_pick _ _ _ rfl s55 (by simp only [if_true]; exact s57) (hK _ _ (Le.refl _) rfl))
    | 30, ho =>
      obtain rfl := Option.some.inj ho
      have s58 : a.tmps.getD 58 undef = .bool true := sees_dep hs 58 29 (by kernel_rfl)
      exact wpOp_plain ho rfl (wp_move _ (.inr rfl) s58 (hK _ _ (Le.refl _) rfl))
    | _ + 31, ho => cases ho
  · intro a w1 hl hd hsz hE
    have e2 : a.tmps.getD 2 undef = .bool true := hE 2
    rw [act_of a 59 hsz hd]
    have hr : ((List.range 59).map fun t => a.tmps.getD t undef).toArray = #[a.tmps.getD 0 undef, a.tmps.getD 1 undef, .bool true, a.tmps.getD 3 undef, a.tmps.getD 4 undef, a.tmps.getD 5 undef, a.tmps.getD 6 undef, a.tmps.getD 7 undef, a.tmps.getD 8 undef, a.tmps.getD 9 undef, a.tmps.getD 10 undef, a.tmps.getD 11 undef, a.tmps.getD 12 undef, a.tmps.getD 13 undef, a.tmps.getD 14 undef, a.tmps.getD 15 undef, a.tmps.getD 16 undef, a.tmps.getD 17 undef, a.tmps.getD 18 undef, a.tmps.getD 19 undef, a.tmps.getD 20 undef, a.tmps.getD 21 undef, a.tmps.getD 22 undef, a.tmps.getD 23 undef, a.tmps.getD 24 undef, a.tmps.getD 25 undef, a.tmps.getD 26 undef, a.tmps.getD 27 undef, a.tmps.getD 28 undef, a.tmps.getD 29 undef, a.tmps.getD 30 undef, a.tmps.getD 31 undef, a.tmps.getD 32 undef, a.tmps.getD 33 undef, a.tmps.getD 34 undef, a.tmps.getD 35 undef, a.tmps.getD 36 undef, a.tmps.getD 37 undef, a.tmps.getD 38 undef, a.tmps.getD 39 undef, a.tmps.getD 40 undef, a.tmps.getD 41 undef, a.tmps.getD 42 undef, a.tmps.getD 43 undef, a.tmps.getD 44 undef, a.tmps.getD 45 undef, a.tmps.getD 46 undef, a.tmps.getD 47 undef, a.tmps.getD 48 undef, a.tmps.getD 49 undef, a.tmps.getD 50 undef, a.tmps.getD 51 undef, a.tmps.getD 52 undef, a.tmps.getD 53 undef, a.tmps.getD 54 undef, a.tmps.getD 55 undef, a.tmps.getD 56 undef, a.tmps.getD 57 undef, a.tmps.getD 58 undef] := by
      rw [← e2]; rfl
    rw [hr]
    clear hE e2 hr hsz hd
    generalize a.tmps.getD 0 undef = x0, a.tmps.getD 1 undef = x1, a.tmps.getD 3 undef = x3, a.tmps.getD 4 undef = x4, a.tmps.getD 5 undef = x5, a.tmps.getD 6 undef = x6, a.tmps.getD 7 undef = x7, a.tmps.getD 8 undef = x8, a.tmps.getD 9 undef = x9, a.tmps.getD 10 undef = x10, a.tmps.getD 11 undef = x11, a.tmps.getD 12 undef = x12, a.tmps.getD 13 undef = x13, a.tmps.getD 14 undef = x14, a.tmps.getD 15 undef = x15, a.tmps.getD 16 undef = x16, a.tmps.getD 17 undef = x17, a.tmps.getD 18 undef = x18, a.tmps.getD 19 undef = x19, a.tmps.getD 20 undef = x20, a.tmps.getD 21 undef = x21, a.tmps.getD 22 undef = x22, a.tmps.getD 23 undef = x23, a.tmps.getD 24 undef = x24, a.tmps.getD 25 undef = x25, a.tmps.getD 26 undef = x26, a.tmps.getD 27 undef = x27, a.tmps.getD 28 undef = x28, a.tmps.getD 29 undef = x29, a.tmps.getD 30 undef = x30, a.tmps.getD 31 undef = x31, a.tmps.getD 32 undef = x32, a.tmps.getD 33 undef = x33, a.tmps.getD 34 undef = x34, a.tmps.getD 35 undef = x35, a.tmps.getD 36 undef = x36, a.tmps.getD 37 undef = x37, a.tmps.getD 38 undef = x38, a.tmps.getD 39 undef = x39, a.tmps.getD 40 undef = x40, a.tmps.getD 41 undef = x41, a.tmps.getD 42 undef = x42, a.tmps.getD 43 undef = x43, a.tmps.getD 44 undef = x44, a.tmps.getD 45 undef = x45, a.tmps.getD 46 undef = x46, a.tmps.getD 47 undef = x47, a.tmps.getD 48 undef = x48, a.tmps.getD 49 undef = x49, a.tmps.getD 50 undef = x50, a.tmps.getD 51 undef = x51, a.tmps.getD 52 undef = x52, a.tmps.getD 53 undef = x53, a.tmps.getD 54 undef = x54, a.tmps.getD 55 undef = x55, a.tmps.getD 56 undef = x56, a.tmps.getD 57 undef = x57, a.tmps.getD 58 undef = x58
    clear a
    have Hl := Lib.hid hl
    clear hl
    go_wp2
    go_ret
    exact ⟨rfl, HL.out.trans Hl.out⟩
end Go.Proofs.Ytleolanjlhbjlaa
