/-
  The walk of the law CrcKeeps.
-/
import Derived.Test.YtleolanjlhbjlaaCrcLF
import Derived.Test.YtleolanjlhbjlaaCrcLS
namespace Go.Proofs.Ytleolanjlhbjlaa
open Go.RowKit

theorem inc_cells (out : List UInt8) (k : Nat) (h : k < out.length) : (U8s out).set k (.int .u8 ((out[k].toNat + 1 : Int) % 256)) = U8s (out.set k (out[k] + 1)) := by
  unfold U8s
  rw [List.map_set]
  congr 2
theorem grown_then {a b c : World} {row : Option Nat} {g : Nat} (h : a.grownBy b row) (k : b.grownBy c (some g)) (hr : row = some g := by rfl) : a.grownBy c row := by
  subst hr
  exact ⟨k.os.trans h.os, k.tape.trans h.tape, k.output.trans h.output, Nat.le_trans h.size k.size, fun i hi hne => (k.block i (Nat.lt_of_lt_of_le hi h.size) hne).trans (h.block i hi hne)⟩
theorem own_apart {v v' : Value} (B : Nat) (h : ∀ k, v.ownBlock = some k → k < B) (h' : ∀ k, v'.ownBlock = some k → B ≤ k) : v.ownBlock = none ∨ v.ownBlock ≠ v'.ownBlock := by
  cases hv : v.ownBlock with
  | none => exact .inl rfl
  | some k => exact .inr fun e => by have := h k hv; have := h' k e.symm; omega
theorem own_apart' {v v' : Value} (B : Nat) (h : ∀ k, v.ownBlock = some k → k < B) (h' : ∀ k, v'.ownBlock = some k → B ≤ k) : v'.ownBlock = none ∨ v'.ownBlock ≠ v.ownBlock := by
  cases hv : v'.ownBlock with
  | none => exact .inl rfl
  | some k => exact .inr fun e => by have := h' k hv; have := h k e.symm; omega

set_option maxRecDepth 100000 in
set_option maxHeartbeats 2000000 in
theorem crcKeeps_walk (a0 : Option Addr) (len0 cap0 : Nat) (z0 : List Int) (w : World) (w0 : IsRow .u8 w a0 len0 cap0 z0) :
    Calls Try.prog 9 #[.slice a0 len0 cap0] w fun e w' => e = .returned (.bool true) ∧ Below w.heap.size w w' := by
  obtain ⟨xs, hr, hl, hc, hm⟩ := w0.bytes
  have hr3 := pre300 hr
  have Hr := Lib.hid hr
  have hn : min len0 300 ≤ 300 := by omega
  have hlx : (xs.take (min len0 300)).length = min len0 300 := by simp; omega
  generalize hys : xs.take (min len0 300) = ys at *
  generalize hn3 : min len0 300 = nn at *
  have Hn := Lib.hid hn3
  have Hr3 := Lib.hid hr3
  have Hlx := Lib.hid hlx
  have HF : Hid (flipF (sealF ys) 0 0 = (sealF ys, 0)) := by show _ = _; unfold flipF; rw [if_pos rfl]
  have Hsl : Hid ((sealF ys).length = nn + 4) := by show _ = _; rw [← hlx]; simp [sealF, le4]
  clear hr hr3 w0 hys hn3 hlx
  go_enter Try.func9, Try.ntmps9
  go_wp2_with (go_at_call 10; refine (awake_any _).mono ?_; rintro e W1 ⟨rfl, hl1⟩)
  go_wp2_with fail
  refine (cut_any a0 len0 cap0 _ _ w.heap.size (Hr.out.below hl1) hc (by omega)).mono ?_
  rintro e W2 ⟨rfl, rfl⟩
  rw [Hn.out]
  have HR1 := Lib.hid (Hr3.out.up hl1)
  go_wp2_with (first
    | (refine wpList_bytes_string rfl 22 9 (.tmp 17) rfl 5 Try.underlying22 Try.underlying5 Try.underlying9 _ _ _ _ ys rfl HR1.out ?_)
    | fail)
  refine (seal_any a0 nn cap0 ys _ HR1.out (by omega)).mono ?_
  rintro e W4 ⟨At, ct, rfl, hownt, hl4⟩
  have HT4 := Lib.hid (own_more hownt hl1.size)
  have HBt := Lib.hid (fun q (hq : (Value.slice At (nn + 4) ct).ownBlock = some q) => (hownt.lt q hq).2)
  have HTr := Lib.hid (Rd.of_own hownt)
  have hct := own_cap hownt
  clear hownt
  go_wp2_with (first
    | (refine wpList_bytes_string rfl 22 9 (.tmp 21) rfl 5 Try.underlying22 Try.underlying5 Try.underlying9 _ _ _ _ (sealF ys) rfl HTr.out ?_)
    | fail)
  refine (open_any At (nn + 4) ct (sealF ys) _ HTr.out hct (by omega)).mono ?_
  rintro e W5 ⟨Aq, cq, rfl, hownq, hl5⟩
  rw [openF_sealF] at hownq ⊢
  simp only at hownq ⊢
  rw [Hlx.out] at hownq ⊢
  have HQ5 := Lib.hid hownq
  have HBq1 := Lib.hid (fun q (hq : (Value.slice Aq nn cq).ownBlock = some q) => (hownq.lt q hq).1)
  have HBq2 := Lib.hid (fun q (hq : (Value.slice Aq nn cq).ownBlock = some q) => (hownq.lt q hq).2)
  have HT5 := Lib.hid (own_le HT4.out hl5)
  have HTr5 := Lib.hid (HTr.out.up hl5)
  clear hownq
  go_wp2_with fail
  refine (flip_any At (nn + 4) ct (sealF ys) 0 0 _ HTr5.out (by omega) (by omega) (by omega) (by omega) (by omega)).mono ?_
  rintro e W6 ⟨Ar, cr, rfl, hownr, hl6⟩
  rw [HF.out] at hownr ⊢
  simp only at hownr ⊢
  rw [Hsl.out] at hownr ⊢
  have HV := Lib.hid hownr
  have HBr := Lib.hid (fun q (hq : (Value.slice Ar (nn + 4) cr).ownBlock = some q) => (hownr.lt q hq).1)
  have HT := Lib.hid (own_le HT5.out hl6)
  have HQ := Lib.hid (own_le HQ5.out hl6)
  have HL6 := Lib.hid (((hl1.trans hl4).trans hl5).trans hl6)
  have Hp1 := Lib.hid (Hr3.out.below HL6.out)
  have HW4 : Hid (w.heap.size ≤ W4.heap.size) := Nat.le_trans hl1.size hl4.size
  have HW5 : Hid (w.heap.size ≤ W5.heap.size) := Nat.le_trans HW4.out hl5.size
  clear hownr hl6
  go_wp2
  go_loopw [10, 35] (fun _ i wr => ∃ (k : Nat) (out : List UInt8), k ≤ nn ∧ i = .int .i64 k ∧ wr.ownsRow W4.heap.size 5 1 (.slice Aq nn cq) nn (U8s out) ∧ W6.grownBy wr (Value.slice Aq nn cq).ownBlock) (fun _ i _ => nn - (intOf i).toNat)
  case atStart => exact ⟨0, ys, Nat.zero_le _, rfl, HQ.out, World.grownBy.refl _ _⟩
  case round =>
    obtain ⟨k, out, hk, rfl, hown, hg⟩ := hrel
    have HO := Lib.hid hown
    have HG := Lib.hid hg
    clear hown hg
    by_cases hlt : k < nn
    · have hol : out.length = nn := by simpa using HO.out.1
      obtain ⟨g, cap, hv, hgb, hgl⟩ := HO.out.form (by omega)
      injection hv with hv1 _ hv2
      subst hv1
      subst hv2
      have hcell : wr.cell? ⟨g, k, none⟩ = some (.int .u8 (out[k].toNat : Int)) := by
        rw [HO.out.cellAt _ (by omega)]
        simp [U8s, List.getElem?_eq_getElem (show k < out.length by omega)]
      have hfr : wr.frozen? ⟨g, k, none⟩ = false := HO.out.frozenAt _
      have HS := Lib.hid (HO.out.stored k (.int .u8 ((out[k].toNat + 1 : Int) % 256)))
      have HU : Hid ((U8s out).set k (.int .u8 ((out[k].toNat + 1 : Int) % 256)) = U8s (out.set k (out[k] + 1))) := inc_cells out k (by omega)
      have hb8 : (out[k].toNat : Int) < 256 := by have := out[k].toNat_lt; omega
      have hb0 : (0 : Int) ≤ (out[k].toNat : Int) := by omega
      generalize (out[k].toNat : Int) = x at hcell HS HU hb8 hb0; generalize hq : out.set k (out[k] + 1) = out2 at HU; clear hq hol
      go_wp2
      go_roundw
      case rel =>
        have h1 := HS.out.1
        rw [HU.out] at h1
        exact ⟨k + 1, _, by omega, by go_num, h1, grown_then HG.out HS.out.2⟩
      case measure => simp [intOf]; omega
    · obtain rfl : nn = k := by omega
      have HV2 := Lib.hid (HV.out.kept HG.out (own_apart' W5.heap.size HBq2.out HBr.out))
      have HT2 := Lib.hid (HT.out.kept HG.out (own_apart W4.heap.size HBt.out HBq1.out))
      have hlow : ∀ q, (Value.slice Aq nn cq).ownBlock = some q → w.heap.size ≤ q := fun q hq => Nat.le_trans HW4.out (HBq1.out q hq)
      have Hp2 := Lib.hid (Hp1.out.grown HG.out HL6.out.size hlow)
      have HL7 := Lib.hid (Below.grown HL6.out HG.out HL6.out.size hlow)
      clear hlow
      obtain ⟨W7, rfl⟩ : ∃ W7 : World, W7 = wr := ⟨_, rfl⟩
      go_wp2
      go_loopw [11, 47] (fun _ i wr => ∃ (k : Nat) (out : List UInt8), k ≤ (nn + 4) ∧ i = .int .i64 k ∧ wr.ownsRow W5.heap.size 5 1 (.slice Ar (nn + 4) cr) (nn + 4) (U8s out) ∧ W7.grownBy wr (Value.slice Ar (nn + 4) cr).ownBlock) (fun _ i _ => (nn + 4) - (intOf i).toNat)
      case atStart => exact ⟨0, (sealF ys), Nat.zero_le _, rfl, HV2.out, World.grownBy.refl _ _⟩
      case round =>
        obtain ⟨k, out, hk, rfl, hown, hg⟩ := hrel
        have HO := Lib.hid hown
        have HG := Lib.hid hg
        clear hown hg
        by_cases hlt : k < (nn + 4)
        · have hol : out.length = (nn + 4) := by simpa using HO.out.1
          obtain ⟨g, cap, hv, hgb, hgl⟩ := HO.out.form (by omega)
          injection hv with hv1 _ hv2
          subst hv1
          subst hv2
          have hcell : wr.cell? ⟨g, k, none⟩ = some (.int .u8 (out[k].toNat : Int)) := by
            rw [HO.out.cellAt _ (by omega)]
            simp [U8s, List.getElem?_eq_getElem (show k < out.length by omega)]
          have hfr : wr.frozen? ⟨g, k, none⟩ = false := HO.out.frozenAt _
          have HS := Lib.hid (HO.out.stored k (.int .u8 ((out[k].toNat + 1 : Int) % 256)))
          have HU : Hid ((U8s out).set k (.int .u8 ((out[k].toNat + 1 : Int) % 256)) = U8s (out.set k (out[k] + 1))) := inc_cells out k (by omega)
          have hb8 : (out[k].toNat : Int) < 256 := by have := out[k].toNat_lt; omega
          have hb0 : (0 : Int) ≤ (out[k].toNat : Int) := by omega
          generalize (out[k].toNat : Int) = x at hcell HS HU hb8 hb0; generalize hq : out.set k (out[k] + 1) = out2 at HU; clear hq hol
          go_wp2
          go_roundw
          case rel =>
            have h1 := HS.out.1
            rw [HU.out] at h1
            exact ⟨k + 1, _, by omega, by go_num, h1, grown_then HG.out HS.out.2⟩
          case measure => simp [intOf]; omega
        · obtain rfl : (nn + 4) = k := by omega
          have HT3 := Lib.hid (HT2.out.kept HG.out (own_apart W5.heap.size (fun q hq => Nat.lt_of_lt_of_le (HBt.out q hq) hl5.size) HBr.out))
          have HR3 := Lib.hid (Rd.of_own HT3.out)
          have hlow : ∀ q, (Value.slice Ar (nn + 4) cr).ownBlock = some q → w.heap.size ≤ q := fun q hq => Nat.le_trans HW5.out (HBr.out q hq)
          have Hp3 := Lib.hid (Hp2.out.grown HG.out HL7.out.size hlow)
          have HL8 := Lib.hid (Below.grown HL7.out HG.out HL7.out.size hlow)
          clear hlow
          obtain ⟨W8, rfl⟩ : ∃ W8 : World, W8 = wr := ⟨_, rfl⟩
          go_wp2_with (first
            | (refine wpList_bytes_string rfl 22 9 (.tmp 57) rfl 5 Try.underlying22 Try.underlying5 Try.underlying9 _ _ _ _ (sealF ys) rfl HR3.out ?_))
          go_loopw [12, 63] (fun _ i wr => ∃ (k : Nat) (out : List UInt8), k ≤ (nn + 4) ∧ i = .int .i64 k ∧ wr.ownsRow w.heap.size 5 1 (.slice At (nn + 4) ct) (nn + 4) (U8s out) ∧ W8.grownBy wr (Value.slice At (nn + 4) ct).ownBlock) (fun _ i _ => (nn + 4) - (intOf i).toNat)
          case atStart => exact ⟨0, (sealF ys), Nat.zero_le _, rfl, HT3.out, World.grownBy.refl _ _⟩
          case round =>
            obtain ⟨k, out, hk, rfl, hown, hg⟩ := hrel
            have HO := Lib.hid hown
            have HG := Lib.hid hg
            clear hown hg
            by_cases hlt : k < (nn + 4)
            · have hol : out.length = (nn + 4) := by simpa using HO.out.1
              obtain ⟨g, cap, hv, hgb, hgl⟩ := HO.out.form (by omega)
              injection hv with hv1 _ hv2
              subst hv1
              subst hv2
              have hcell : wr.cell? ⟨g, k, none⟩ = some (.int .u8 (out[k].toNat : Int)) := by
                rw [HO.out.cellAt _ (by omega)]
                simp [U8s, List.getElem?_eq_getElem (show k < out.length by omega)]
              have hfr : wr.frozen? ⟨g, k, none⟩ = false := HO.out.frozenAt _
              have HS := Lib.hid (HO.out.stored k (.int .u8 ((out[k].toNat + 1 : Int) % 256)))
              have HU : Hid ((U8s out).set k (.int .u8 ((out[k].toNat + 1 : Int) % 256)) = U8s (out.set k (out[k] + 1))) := inc_cells out k (by omega)
              have hb8 : (out[k].toNat : Int) < 256 := by have := out[k].toNat_lt; omega
              have hb0 : (0 : Int) ≤ (out[k].toNat : Int) := by omega
              generalize (out[k].toNat : Int) = x at hcell HS HU hb8 hb0; generalize hq : out.set k (out[k] + 1) = out2 at HU; clear hq hol
              go_wp2
              go_roundw
              case rel =>
                have h1 := HS.out.1
                rw [HU.out] at h1
                exact ⟨k + 1, _, by omega, by go_num, h1, grown_then HG.out HS.out.2⟩
              case measure => simp [intOf]; omega
            · obtain rfl : (nn + 4) = k := by omega
              have HRf := Lib.hid (Hp3.out.grown HG.out HL8.out.size (fun q hq => (HO.out.lt q hq).1))
              go_wp2_with (first
                | (refine wpList_bytes_string rfl 22 9 (.tmp 73) rfl 5 Try.underlying22 Try.underlying5 Try.underlying9 _ _ _ _ ys rfl HRf.out ?_))
              go_ret
              exact ⟨rfl, Below.grown HL8.out HG.out HL8.out.size (fun q hq => (HO.out.lt q hq).1)⟩
end Go.Proofs.Ytleolanjlhbjlaa
