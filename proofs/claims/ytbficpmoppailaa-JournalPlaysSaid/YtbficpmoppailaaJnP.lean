/-
  Plain: a journal that is whole; what reading it gives; what writing to it, in full or in part, leaves.
-/
import Derived.Test.YtbficpmoppailaaJnF
namespace Go.Gh
set_option linter.unusedSimpArgs false
set_option linter.unusedVariables false
set_option maxHeartbeats 4000000

def encR (r : JR) : List UInt8 := (if r.state then 166 else 165) :: bodyB r.num r.data
theorem bodyB_length (k : Nat) (p : List UInt8) : (bodyB k p).length = 16 + p.length := by simp [bodyB, sealB_length, leB_length]; omega
theorem encR_length (r : JR) : (encR r).length = 17 + r.data.length := by simp [encR, bodyB_length]; omega
def Chain : Nat → List JR → Prop
  | _, [] => True
  | last, r :: rs => (last = 0 → 1 ≤ r.num ∧ r.num ≤ 1099511627776) ∧ (last ≠ 0 → r.num = last + 1 ∧ r.state = false) ∧ r.num < 4611686018427387904 ∧ r.data.length < 4294967296 ∧ Chain r.num rs
def lastN : Nat → List JR → Nat
  | last, [] => last
  | _, r :: rs => lastN r.num rs
/-- the bytes of records -/
def encs (rs : List JR) : List UInt8 := rs.flatMap encR

/-! ### sublists -/
theorem sub_mid (a b c : List UInt8) : sub (a ++ b ++ c) a.length (a.length + b.length) = b := by
  unfold sub
  rw [List.append_assoc, List.drop_append_of_le_length (Nat.le_refl _), List.drop_length, List.nil_append, Nat.add_sub_cancel_left, List.take_append_of_le_length (Nat.le_refl _), List.take_length]
theorem sub_of {l a b c : List UInt8} {i j : Nat} (h : l = a ++ b ++ c) (hi : i = a.length) (hj : j = a.length + b.length) : sub l i j = b := by
  subst h; subst hi; subst hj; exact sub_mid a b c
theorem get_mid (a : List UInt8) (x : UInt8) (c : List UInt8) : (a ++ x :: c)[a.length]! = x := by
  rw [List.getElem!_eq_getElem?_getD, List.getElem?_append_right (Nat.le_refl _), Nat.sub_self]; rfl
theorem get_of {l a c : List UInt8} {x : UInt8} {i : Nat} (h : l = a ++ x :: c) (hi : i = a.length) : l[i]! = x := by subst h; subst hi; exact get_mid a x c

/-! ### reading -/
/-- what is read where a mark and something sealed stand -/
theorem read_body {pre tail : List UInt8} {mark : UInt8} {r : JR} (hm : mark = 165 ∨ mark = 166) {last : Nat} (hst : mark = 166 → last = 0) (ht : tail ≠ []) (hd : r.data.length < 4294967296) (hn : r.num < 4611686018427387904)
    (hl : (last = 0 → 1 ≤ r.num ∧ r.num ≤ 1099511627776) ∧ (last ≠ 0 → r.num = last + 1)) :
    readB (pre ++ (mark :: bodyB r.num r.data) ++ tail) pre.length last = some ⟨r.num, mark == 166, r.data⟩ := by
  have htl : 0 < tail.length := List.length_pos_iff.2 ht
  have hbl := bodyB_length r.num r.data
  generalize hb : pre ++ (mark :: bodyB r.num r.data) ++ tail = b
  have hblen : b.length = pre.length + 17 + r.data.length + tail.length := by rw [← hb]; simp [hbl]; omega
  have h0 : b[pre.length]! = mark := get_of (c := bodyB r.num r.data ++ tail) (by rw [← hb]; simp) rfl
  have hin : leB 4 r.data.length ++ (leB 8 r.num ++ r.data) = leB 4 r.data.length ++ (leB 8 r.num ++ r.data) := rfl
  have h4 : sub b (pre.length + 1) (pre.length + 5) = leB 4 r.data.length := sub_of (a := pre ++ [mark]) (c := leB 8 r.num ++ r.data ++ leB 4 (crcN (leB 4 r.data.length ++ (leB 8 r.num ++ r.data))) ++ tail) (by rw [← hb]; simp [bodyB, sealB]) (by simp) (by simp [leB_length])
  have hN : leN (leB 4 r.data.length) = r.data.length := by rw [leN_leB]; exact Nat.mod_eq_of_lt (by simpa using hd)
  have hs : sub b (pre.length + 1) (pre.length + 17 + r.data.length) = bodyB r.num r.data := sub_of (a := pre ++ [mark]) (c := tail) (by rw [← hb]; simp) (by simp) (by simp [hbl]; omega)
  have hk : sub (leB 4 r.data.length ++ (leB 8 r.num ++ r.data)) 4 12 = leB 8 r.num := sub_of (a := leB 4 r.data.length) (c := r.data) (by simp) (by simp [leB_length]) (by simp [leB_length])
  have hK : leN (leB 8 r.num) = r.num := by rw [leN_leB]; exact Nat.mod_eq_of_lt (Nat.lt_of_lt_of_le hn (by decide))
  have hdr : (leB 4 r.data.length ++ (leB 8 r.num ++ r.data)).drop 12 = r.data := by
    rw [← List.append_assoc]
    rw [List.drop_append_of_le_length (by simp [leB_length]), List.drop_of_length_le (by simp [leB_length])]; rfl
  unfold readB
  rw [h0, h4, hN, hs]
  rw [if_neg (by
    rintro (⟨h1, h2⟩ | h1)
    · rcases hm with e | e
      · exact h1 e
      · rcases h2 with h2 | h2
        · exact h2 e
        · exact h2 (hst e)
    · omega), if_neg (by omega)]
  rw [bodyB, openB_seal]
  dsimp only
  rw [hk, hK, hdr, if_neg]
  rintro (⟨h1, h2⟩ | ⟨h1, h2⟩)
  · have := hl.1 h1; omega
  · exact h2 (hl.2 h1)
theorem read_rec {pre tail : List UInt8} {r : JR} {last : Nat} (ht : tail ≠ []) (hc : Chain last [r]) : readB (pre ++ encR r ++ tail) pre.length last = some r := by
  obtain ⟨h1, h2, h3, h4, _⟩ := hc
  have := read_body (pre := pre) (tail := tail) (mark := if r.state then 166 else 165) (r := r) (last := last) (by cases r.state <;> simp) (fun e => by
    cases hs : r.state with
    | false => rw [hs] at e; exact absurd e (by decide)
    | true =>
      by_cases h0 : last = 0
      · exact h0
      · have := (h2 h0).2; rw [hs] at this; cases this) ht h4 h3 ⟨h1, fun h => (h2 h).1⟩
  rw [encR, this]
  obtain ⟨n, s, d⟩ := r
  cases s <;> rfl
/-- the records of a bank, up to where they end -/
theorem recs_of : ∀ (rs : List JR) (pre tail : List UInt8) (last f : Nat), Chain last rs → tail ≠ [] → rs.length ≤ f →
    recsB (pre ++ encs rs ++ tail) f pre.length last = (rs ++ (recsB (pre ++ encs rs ++ tail) (f - rs.length) (pre ++ encs rs).length (lastN last rs)).1, (recsB (pre ++ encs rs ++ tail) (f - rs.length) (pre ++ encs rs).length (lastN last rs)).2)
  | [], pre, tail, last, f, _, _, _ => by simp [encs, lastN]
  | r :: rs, pre, tail, last, f, hc, ht, hf => by
    obtain ⟨f, rfl⟩ : ∃ f', f = f' + 1 := ⟨f - 1, by simp at hf; omega⟩
    obtain ⟨h1, h2, h3, h4, h5⟩ := hc
    have hb : pre ++ encs (r :: rs) ++ tail = pre ++ encR r ++ (encs rs ++ tail) := by simp [encs]
    have hb2 : pre ++ encs (r :: rs) ++ tail = (pre ++ encR r) ++ encs rs ++ tail := by simp [encs]
    have hr := read_rec (pre := pre) (tail := encs rs ++ tail) (r := r) (last := last) (by simp [ht]) ⟨h1, h2, h3, h4, trivial⟩
    have h0 : (pre ++ encs (r :: rs) ++ tail)[pre.length]! ≠ 0 := by
      rw [get_of (a := pre) (x := if r.state then 166 else 165) (c := bodyB r.num r.data ++ (encs rs ++ tail)) (by rw [hb]; simp [encR]) rfl]
      cases r.state <;> decide
    have ih := recs_of rs (pre ++ encR r) tail r.num f h5 ht (by simpa using hf)
    rw [recsB, if_neg h0]
    rw [hb] at *
    rw [hr]
    have hl : pre.length + 17 + r.data.length = (pre ++ encR r).length := by simp [encR_length]; omega
    dsimp only
    rw [hl]
    rw [show pre ++ encR r ++ (encs rs ++ tail) = pre ++ encR r ++ encs rs ++ tail by simp] at *
    rw [ih]
    have hfin : (pre ++ encs (r :: rs)).length = (pre ++ encR r ++ encs rs).length := by simp [encs]
    rw [hfin, show f + 1 - (r :: rs).length = f - rs.length by simp]
    rfl
theorem recs_zero {b : List UInt8} {f o last : Nat} (h : b[o]! = 0) : recsB b f o last = ([], o, last, false) := by
  cases f with
  | zero => rfl
  | succ f => rw [recsB, if_pos h]
def headB (g : Nat) : List UInt8 := 183 :: sealB (leB 8 g)
theorem headB_length (g : Nat) : (headB g).length = 13 := by simp [headB, sealB_length, leB_length]
theorem gen_head {g : Nat} {t : List UInt8} (hg : g < 18446744073709551616) : genB (headB g ++ t) = some g := by
  have h0 : (headB g ++ t)[0]! = 183 := rfl
  have hs : sub (headB g ++ t) 1 13 = sealB (leB 8 g) := sub_of (a := [183]) (c := t) (by simp [headB]) rfl (by simp [sealB_length, leB_length])
  rw [genB, h0, if_neg (by decide), hs, openB_seal]
  simp only [Option.map_some, leN_leB]
  rw [Nat.mod_eq_of_lt (by simpa using hg)]
theorem gen_zero {b : List UInt8} (h : b[0]! = 0) : genB b = none := by rw [genB, h, if_pos (by decide)]
/-- a bank as it should be -/
def BankIs (b : List UInt8) (g : Nat) (rs : List JR) : Prop := ∃ rest, b = headB g ++ encs rs ++ 0 :: rest
theorem encs_length_le (rs : List JR) : rs.length ≤ (encs rs).length := by
  induction rs with
  | nil => simp
  | cons r rs ih => simp [encs, encR_length] at *; omega
theorem bank_recs {b : List UInt8} {g : Nat} {rs : List JR} (h : BankIs b g rs) (hc : Chain 0 rs) : recsB b b.length 13 0 = (rs, 13 + (encs rs).length, lastN 0 rs, false) := by
  obtain ⟨rest, rfl⟩ := h
  have h1 := recs_of rs (headB g) (0 :: rest) 0 (headB g ++ encs rs ++ 0 :: rest).length hc (by simp) (by have := encs_length_le rs; simp; omega)
  have h2 : (headB g ++ encs rs ++ 0 :: rest)[(headB g ++ encs rs).length]! = 0 := get_mid _ _ _
  rw [recs_zero h2, headB_length] at h1
  rw [h1]
  simp [headB_length]
theorem bank_gen {b : List UInt8} {g : Nat} {rs : List JR} (h : BankIs b g rs) (hg : g < 18446744073709551616) : genB b = some g := by
  obtain ⟨rest, rfl⟩ := h
  rw [List.append_assoc]; exact gen_head hg

/-! ### a whole journal -/
structure Good (d : List UInt8) (l : JL) (rs : List JR) : Prop where
  even : d.length = 2 * (d.length / 2)
  low : 64 ≤ d.length / 2
  bank : l.bank < 2
  act : BankIs (bankB d l.bank) l.gen rs
  oth : ∀ g, genB (bankB d (1 - l.bank)) = some g → g < l.gen
  gen : l.gen < 9223372036854775808
  chain : Chain 0 rs
  fin : l.fin = 13 + (encs rs).length
  next : l.next = lastN 0 rs + 1
theorem Good.choose {d : List UInt8} {l : JL} {rs : List JR} (h : Good d l rs) : chooseB d = some (l.bank, l.gen) := by
  have hg := bank_gen h.act (Nat.lt_trans h.gen (by decide))
  have ho := h.oth
  unfold chooseB
  rcases (show l.bank = 0 ∨ l.bank = 1 by have := h.bank; omega) with e | e
  · rw [e] at hg ho ⊢
    rw [hg]
    cases h1 : genB (bankB d 1) with
    | none => rfl
    | some g =>
      have := ho g h1
      dsimp only
      rw [if_neg (by omega)]
  · rw [e] at hg ho ⊢
    rw [hg]
    cases h1 : genB (bankB d 0) with
    | none => rfl
    | some g =>
      have := ho g h1
      dsimp only
      rw [if_pos (by omega)]
theorem Good.open_ {d : List UInt8} {l : JL} {rs : List JR} (h : Good d l rs) : openJ d = some (⟨l.bank, l.gen, l.fin, l.next, false, false⟩, rs) := by
  unfold openJ
  rw [h.choose]
  dsimp only
  rw [bank_recs h.act h.chain, h.fin, h.next]
theorem Good.log {d : List UInt8} {l : JL} {rs : List JR} (h : Good d l rs) (b t : Bool) : Good d {l with broken := b, damaged := t} rs := ⟨h.even, h.low, h.bank, h.act, h.oth, h.gen, h.chain, h.fin, h.next⟩
end Go.Gh
