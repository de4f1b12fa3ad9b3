/-
  Plain: one inverted bit in a record ends the journal there.
-/
import Derived.Test.YtbficpmoppailaaJnP2
namespace Go.Gh
set_option linter.unusedSimpArgs false
set_option linter.unusedVariables false

theorem mark_flip : ∀ j : Nat, j < 8 → (∀ m : UInt8, m = 165 ∨ m = 166 → (m ^^^ UInt8.ofNat (2 ^ j)) ≠ 0 ∧ (m ^^^ UInt8.ofNat (2 ^ j)) ≠ 165 ∧ (m ^^^ UInt8.ofNat (2 ^ j)) ≠ 166)
  | 0, _ | 1, _ | 2, _ | 3, _ | 4, _ | 5, _ | 6, _ | 7, _ => by rintro m (rfl | rfl) <;> decide
  | n + 8, h => absurd h (by omega)
theorem xorBit_mid (a b c : List UInt8) (j : Nat) (h1 : 8 * a.length ≤ j) (h2 : j < 8 * (a.length + b.length)) : xorBit (a ++ b ++ c) j = a ++ xorBit b (j - 8 * a.length) ++ c := by
  rw [xorBit_append_left _ _ _ (by rw [List.length_append]; omega), xorBit_append_right _ _ _ h1]
/-- a record with an inverted bit outside its length is none -/
theorem read_flip {pre tail : List UInt8} {r : JR} {j last : Nat} (hd : r.data.length < 4294967296) (hj : j < 8 * (17 + r.data.length)) (hout : j < 8 ∨ 40 ≤ j) :
    (pre ++ xorBit (encR r) j ++ tail)[pre.length]! ≠ 0 ∧ readB (pre ++ xorBit (encR r) j ++ tail) pre.length last = none := by
  generalize hmk : (if r.state then (166 : UInt8) else 165) = mk
  have hm : mk = 165 ∨ mk = 166 := by rw [← hmk]; cases r.state <;> simp
  have hE : encR r = mk :: bodyB r.num r.data := by rw [encR, hmk]
  rcases hout with h8 | h40
  · have e : xorBit (encR r) j = (mk ^^^ UInt8.ofNat (2 ^ j)) :: bodyB r.num r.data := by
      rw [hE]; unfold xorBit
      rw [show j / 8 = 0 by omega, show j % 8 = j by omega]; rfl
    obtain ⟨k0, k1, k2⟩ := mark_flip j h8 mk hm
    have h0 : (pre ++ xorBit (encR r) j ++ tail)[pre.length]! = mk ^^^ UInt8.ofNat (2 ^ j) := get_of (c := bodyB r.num r.data ++ tail) (by rw [e]; simp) rfl
    refine ⟨by rw [h0]; exact k0, ?_⟩
    rw [readB, h0, if_pos (.inl ⟨k1, .inl k2⟩)]
  · have hb := bodyB_length r.num r.data
    have e : xorBit (encR r) j = mk :: xorBit (bodyB r.num r.data) (j - 8) := by
      rw [hE]; exact xorBit_append_right [mk] _ j (by simp; omega)
    have h0 : (pre ++ xorBit (encR r) j ++ tail)[pre.length]! = mk := get_of (c := xorBit (bodyB r.num r.data) (j - 8) ++ tail) (by rw [e]; simp) rfl
    refine ⟨by rw [h0]; rcases hm with rfl | rfl <;> decide, ?_⟩
    have hX : bodyB r.num r.data = leB 4 r.data.length ++ (leB 8 r.num ++ (r.data ++ leB 4 (crcN (leB 4 r.data.length ++ (leB 8 r.num ++ r.data))))) := by
      simp [bodyB, sealB]
    have h4 : xorBit (bodyB r.num r.data) (j - 8) = leB 4 r.data.length ++ xorBit (leB 8 r.num ++ (r.data ++ leB 4 (crcN (leB 4 r.data.length ++ (leB 8 r.num ++ r.data))))) (j - 8 - 32) := by
      have := xorBit_append_right (leB 4 r.data.length) (leB 8 r.num ++ (r.data ++ leB 4 (crcN (leB 4 r.data.length ++ (leB 8 r.num ++ r.data))))) (j - 8) (by rw [leB_length]; omega)
      rw [leB_length] at this
      rw [← this, ← hX]
    have hs1 : sub (pre ++ xorBit (encR r) j ++ tail) (pre.length + 1) (pre.length + 5) = leB 4 r.data.length := by
      refine sub_of (a := pre ++ [mk]) (c := xorBit (leB 8 r.num ++ (r.data ++ leB 4 (crcN (leB 4 r.data.length ++ (leB 8 r.num ++ r.data))))) (j - 8 - 32) ++ tail) ?_ (by simp) (by simp [leB_length])
      rw [e, h4]; simp
    have hn : leN (leB 4 r.data.length) = r.data.length := by rw [leN_leB, Nat.mod_eq_of_lt (by simpa using hd)]
    have hs2 : sub (pre ++ xorBit (encR r) j ++ tail) (pre.length + 1) (pre.length + 17 + r.data.length) = xorBit (bodyB r.num r.data) (j - 8) := by
      refine sub_of (a := pre ++ [mk]) (c := tail) ?_ (by simp) (by rw [xorBit_length, hb]; simp; omega)
      rw [e]; simp
    have ho : openB (xorBit (bodyB r.num r.data) (j - 8)) = none := by
      refine openB_flip _ _ ?_
      have : (sealB (leB 4 r.data.length ++ (leB 8 r.num ++ r.data))).length = 16 + r.data.length := hb
      omega
    rw [readB, hs1, hn, hs2, ho]
    split
    · rfl
    · split
      · rfl
      · rfl
theorem encs_append (a b : List JR) : encs (a ++ b) = encs a ++ encs b := by simp [encs]
theorem chain_take : ∀ (a b : List JR) (k : Nat), Chain k (a ++ b) → Chain k a
  | [], _, _, _ => trivial
  | x :: a, b, k, ⟨h1, h2, h3, h4, h5⟩ => ⟨h1, h2, h3, h4, chain_take a b x.num h5⟩
theorem chain_len : ∀ (a : List JR) (r : JR) (b : List JR) (k : Nat), Chain k (a ++ r :: b) → r.data.length < 4294967296
  | [], _, _, _, h => h.2.2.2.1
  | x :: a, r, b, k, h => chain_len a r b x.num h.2.2.2.2
theorem bank_flip {d : List UInt8} {at' : Nat} (h : at' / 8 < d.length / 2) : bankB (xorBit d at') 0 = xorBit (bankB d 0) at' ∧ bankB (xorBit d at') 1 = bankB d 1 := by
  have hl := bankB_len (d := d) (b := 0) (by decide)
  have e : d[at' / 8]! = (bankB d 0)[at' / 8]! := by
    have := bankB_get (d := d) (b := 0) (by decide) h
    rw [List.getElem!_eq_getElem?_getD, List.getElem!_eq_getElem?_getD, this]
    simp
  have h1 := bank_set (d := d) (b := 0) (v := d[at' / 8]! ^^^ UInt8.ofNat (2 ^ (at' % 8))) (by decide) h
  have h2 := bank_set_ne (d := d) (b := 0) (v := d[at' / 8]! ^^^ UInt8.ofNat (2 ^ (at' % 8))) (by decide) h
  rw [Nat.zero_mul, Nat.zero_add] at h1 h2
  exact ⟨by unfold xorBit; rw [h1, ← e], h2⟩
theorem open_flip {d : List UInt8} {l : JL} {pre post : List JR} {r : JR} (h : Good d l (pre ++ r :: post)) (hb : l.bank = 0) {at' : Nat}
    (h1 : 8 * (13 + (encs pre).length) ≤ at') (h2 : at' < 8 * (13 + (encs pre).length + 17 + r.data.length)) (h3 : at' / 8 ≤ 13 + (encs pre).length ∨ 13 + (encs pre).length + 5 ≤ at' / 8) :
    openJ (xorBit d at') = some (⟨0, l.gen, 13 + (encs pre).length, lastN 0 pre + 1, false, true⟩, pre) := by
  have hch := h.choose
  obtain ⟨rest, hB⟩ := h.act
  rw [hb] at hB hch
  have hl := bankB_len (d := d) (b := 0) (by decide)
  have hr := chain_len _ _ _ _ h.chain
  have hsplit : bankB d 0 = (headB l.gen ++ encs pre) ++ encR r ++ (encs post ++ 0 :: rest) := by
    rw [hB, encs_append, show encs (r :: post) = encR r ++ encs post from by simp [encs]]; simp
  have hpl : (headB l.gen ++ encs pre).length = 13 + (encs pre).length := by rw [List.length_append, headB_length]
  have hin : at' / 8 < d.length / 2 := by
    have := congrArg List.length hsplit
    rw [hl] at this
    simp only [List.length_append, headB_length, encR_length, List.length_cons] at this
    omega
  obtain ⟨hb0, hb1⟩ := bank_flip hin
  have hx : xorBit (bankB d 0) at' = (headB l.gen ++ encs pre) ++ xorBit (encR r) (at' - 8 * (13 + (encs pre).length)) ++ (encs post ++ 0 :: rest) := by
    rw [hsplit, xorBit_mid _ _ _ _ (by rw [hpl]; exact h1) (by rw [hpl, encR_length]; omega), hpl]
  obtain ⟨k0, k1⟩ := read_flip (pre := headB l.gen ++ encs pre) (tail := encs post ++ 0 :: rest) (r := r) (j := at' - 8 * (13 + (encs pre).length)) (last := lastN 0 pre) hr (by omega) (by omega)
  have hch2 : chooseB (xorBit d at') = some (0, l.gen) := by
    rw [← hch]
    unfold chooseB
    rw [hb0, hb1, hx, hsplit, show headB l.gen ++ encs pre ++ xorBit (encR r) (at' - 8 * (13 + (encs pre).length)) ++ (encs post ++ 0 :: rest) = headB l.gen ++ (encs pre ++ (xorBit (encR r) (at' - 8 * (13 + (encs pre).length)) ++ (encs post ++ 0 :: rest))) by simp, show headB l.gen ++ encs pre ++ encR r ++ (encs post ++ 0 :: rest) = headB l.gen ++ (encs pre ++ (encR r ++ (encs post ++ 0 :: rest))) by simp]
    rw [gen_head (Nat.lt_trans h.gen (by decide)), gen_head (Nat.lt_trans h.gen (by decide))]
  unfold openJ
  rw [hch2]
  dsimp only
  rw [hb0, hx]
  have htn : xorBit (encR r) (at' - 8 * (13 + (encs pre).length)) ++ (encs post ++ 0 :: rest) ≠ [] := by
    intro e
    have := congrArg List.length e
    simp [xorBit_length, encR_length] at this
  have hel := encs_length_le pre
  have hrec := recs_of pre (headB l.gen) (xorBit (encR r) (at' - 8 * (13 + (encs pre).length)) ++ (encs post ++ 0 :: rest)) 0 (headB l.gen ++ encs pre ++ xorBit (encR r) (at' - 8 * (13 + (encs pre).length)) ++ (encs post ++ 0 :: rest)).length (chain_take _ _ _ h.chain) htn (by simp; omega)
  rw [headB_length] at hrec
  rw [show headB l.gen ++ encs pre ++ (xorBit (encR r) (at' - 8 * (13 + (encs pre).length)) ++ (encs post ++ 0 :: rest)) = headB l.gen ++ encs pre ++ xorBit (encR r) (at' - 8 * (13 + (encs pre).length)) ++ (encs post ++ 0 :: rest) by simp] at hrec
  rw [hrec]
  obtain ⟨f, hf⟩ : ∃ f, (headB l.gen ++ encs pre ++ xorBit (encR r) (at' - 8 * (13 + (encs pre).length)) ++ (encs post ++ 0 :: rest)).length - pre.length = f + 1 :=
    ⟨(headB l.gen ++ encs pre ++ xorBit (encR r) (at' - 8 * (13 + (encs pre).length)) ++ (encs post ++ 0 :: rest)).length - pre.length - 1, by simp [headB_length]; omega⟩
  rw [hf, recsB, if_neg k0, k1, hpl]
  simp
end Go.Gh
