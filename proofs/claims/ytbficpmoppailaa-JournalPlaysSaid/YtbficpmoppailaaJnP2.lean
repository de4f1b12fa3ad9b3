/-
  Plain: what writing to a whole journal leaves, in full or in part.
-/
import Derived.Test.YtbficpmoppailaaJnP
namespace Go.Gh
set_option linter.unusedSimpArgs false
set_option linter.unusedVariables false
set_option maxHeartbeats 4000000

/-! ### writing within a bank -/
theorem bankB_len {d : List UInt8} {b : Nat} (hb : b < 2) : (bankB d b).length = d.length / 2 := by
  have : b * (d.length / 2) + d.length / 2 ≤ d.length := by
    rcases (show b = 0 ∨ b = 1 by omega) with rfl | rfl <;> omega
  simp only [bankB, sub, List.length_take, List.length_drop, Nat.add_mul]
  omega
theorem bankB_get {d : List UInt8} {b x : Nat} (hb : b < 2) (hx : x < d.length / 2) : (bankB d b)[x]? = d[b * (d.length / 2) + x]? := by
  simp only [bankB, sub]
  rw [List.getElem?_take_of_lt (by rw [Nat.add_mul]; omega), List.getElem?_drop]
theorem bank_set {d : List UInt8} {b x : Nat} {v : UInt8} (hb : b < 2) (hx : x < d.length / 2) : bankB (d.set (b * (d.length / 2) + x) v) b = (bankB d b).set x v := by
  refine List.ext_getElem? fun j => ?_
  have hl := bankB_len (d := d) hb
  have hl2 := bankB_len (d := d.set (b * (d.length / 2) + x) v) hb
  rw [List.length_set] at hl2
  have hd : b * (d.length / 2) + d.length / 2 ≤ d.length := by
    rcases (show b = 0 ∨ b = 1 by omega) with rfl | rfl <;> omega
  by_cases hj : j < d.length / 2
  · rw [bankB_get hb (by rw [List.length_set]; exact hj), List.length_set, List.getElem?_set, List.getElem?_set, bankB_get hb hj]
    by_cases e : x = j
    · subst e; rw [if_pos rfl, if_pos rfl, if_pos (by omega), if_pos (by omega)]
    · rw [if_neg (by omega), if_neg e]
  · rw [List.getElem?_eq_none (by omega), List.getElem?_eq_none (by rw [List.length_set]; omega)]
theorem bank_set_ne {d : List UInt8} {b x : Nat} {v : UInt8} (hb : b < 2) (hx : x < d.length / 2) : bankB (d.set (b * (d.length / 2) + x) v) (1 - b) = bankB d (1 - b) := by
  refine List.ext_getElem? fun j => ?_
  have hl := bankB_len (d := d) (b := 1 - b) (by omega)
  have hl2 := bankB_len (d := d.set (b * (d.length / 2) + x) v) (b := 1 - b) (by omega)
  rw [List.length_set] at hl2
  by_cases hj : j < d.length / 2
  · rw [bankB_get (by omega) (by rw [List.length_set]; exact hj), List.length_set, List.getElem?_set, bankB_get (by omega) hj]
    rw [if_neg]
    rcases (show b = 0 ∨ b = 1 by omega) with rfl | rfl <;> omega
  · rw [List.getElem?_eq_none (by omega), List.getElem?_eq_none (by omega)]
/-- the same writes, further on -/
def shift (s : Nat) (l : List (Nat × UInt8)) : List (Nat × UInt8) := l.map fun p => (s + p.1, p.2)
theorem shift_at (s : Nat) : ∀ (l : List UInt8) (o : Nat), shift s (at_ o l) = at_ (s + o) l
  | [], _ => rfl
  | x :: l, o => by simp only [at_, shift, List.map_cons]; rw [← shift, shift_at s l (o + 1)]; rfl
theorem shift_take (s k : Nat) (l : List (Nat × UInt8)) : (shift s l).take k = shift s (l.take k) := by simp [shift, List.map_take]
theorem banks_setAll : ∀ (ws : List (Nat × UInt8)) (d : List UInt8) (b : Nat), b < 2 → (∀ w ∈ ws, w.1 < d.length / 2) →
    bankB (setAll d (shift (b * (d.length / 2)) ws)) b = setAll (bankB d b) ws ∧ bankB (setAll d (shift (b * (d.length / 2)) ws)) (1 - b) = bankB d (1 - b)
  | [], d, b, _, _ => ⟨rfl, rfl⟩
  | (x, v) :: ws, d, b, hb, h => by
    have hx := h (x, v) (by simp)
    have ih := banks_setAll ws (d.set (b * (d.length / 2) + x) v) b hb (by rw [List.length_set]; exact fun w hw => h w (by simp [hw]))
    rw [List.length_set] at ih
    have h1 := bank_set (v := v) hb hx
    have h2 := bank_set_ne (v := v) hb hx
    exact ⟨ih.1.trans (by rw [h1]; rfl), ih.2.trans h2⟩
/-! ### within a row -/
theorem setAll_at : ∀ (bs pre mid post : List UInt8), mid.length = bs.length → setAll (pre ++ mid ++ post) (at_ pre.length bs) = pre ++ bs ++ post
  | [], pre, mid, post, h => by
    obtain rfl : mid = [] := List.eq_nil_of_length_eq_zero h
    rfl
  | b :: bs, pre, [], post, h => by simp at h
  | b :: bs, pre, m :: mid, post, h => by
    have ih := setAll_at bs (pre ++ [b]) mid post (by simpa using h)
    simp only [at_, setAll, List.foldl_cons]
    rw [List.append_assoc, List.set_append_right _ _ (Nat.le_refl _), Nat.sub_self]
    simp only [List.cons_append, List.set_cons_zero]
    rw [show pre ++ b :: (mid ++ post) = pre ++ [b] ++ mid ++ post by simp]
    simp only [List.length_append, List.length_singleton, setAll] at ih
    rw [ih]; simp
theorem set_mid (pre : List UInt8) (x y : UInt8) (post : List UInt8) : (pre ++ x :: post).set pre.length y = pre ++ y :: post := by
  rw [List.set_append_right _ _ (Nat.le_refl _), Nat.sub_self]; rfl
theorem split_at {l : List UInt8} {n : Nat} (h : n < l.length) : ∃ a x c, l = a ++ x :: c ∧ a.length = n :=
  ⟨l.take n, l[n], l.drop (n + 1), by rw [← List.drop_eq_getElem_cons h, List.take_append_drop], by simp; omega⟩
/-- writes that leave a beginning as it is, and a zero behind it -/
theorem keep_zero : ∀ (ws : List (Nat × UInt8)) (pre rest : List UInt8), (∀ w ∈ ws, pre.length < w.1 ∨ (w.1 = pre.length ∧ w.2 = 0)) → ∃ rest', setAll (pre ++ 0 :: rest) ws = pre ++ 0 :: rest'
  | [], pre, rest, _ => ⟨rest, rfl⟩
  | (x, v) :: ws, pre, rest, h => by
    have hx := h (x, v) (by simp)
    obtain ⟨rest', e⟩ : ∃ rest', (pre ++ 0 :: rest).set x v = pre ++ 0 :: rest' := by
      rcases hx with hx | ⟨hx, hv⟩
      · simp only at hx
        refine ⟨rest.set (x - pre.length - 1) v, ?_⟩
        rw [List.set_append_right _ _ (by omega)]
        obtain ⟨q, hq⟩ : ∃ q, x - pre.length = q + 1 := ⟨x - pre.length - 1, by omega⟩
        rw [hq, List.set_cons_succ]; rfl
      · simp only at hx hv
        subst hx; subst hv
        exact ⟨rest, set_mid _ _ _ _⟩
    simp only [setAll, List.foldl_cons]
    rw [e]
    exact keep_zero ws pre rest' fun w hw => h w (by simp [hw])
/-- a record's bytes written behind a beginning, the mark last -/
def recW (o : Nat) (mark : UInt8) (k : Nat) (p : List UInt8) : List (Nat × UInt8) := (o, 0) :: (o + 17 + p.length, 0) :: (at_ (o + 1) (bodyB k p) ++ [(o, mark)])
theorem recW_length (o : Nat) (mark : UInt8) (k : Nat) (p : List UInt8) : (recW o mark k p).length = 19 + p.length := by simp [recW, at_length, bodyB_length]; omega
theorem at_mem : ∀ {bs : List UInt8} {o : Nat} {w : Nat × UInt8}, w ∈ at_ o bs → o ≤ w.1 ∧ w.1 < o + bs.length
  | [], _, _, h => by cases h
  | b :: bs, o, w, h => by
    rcases List.mem_cons.1 h with rfl | h
    · simp
    · have := at_mem h; simp only [List.length_cons]; omega
theorem recW_full {pre rest : List UInt8} {mark : UInt8} {k : Nat} {p : List UInt8} (h : 17 + p.length ≤ rest.length) : ∃ rest', setAll (pre ++ 0 :: rest) (recW pre.length mark k p) = pre ++ (mark :: bodyB k p) ++ 0 :: rest' := by
  obtain ⟨a, x, c, rfl, ha⟩ := split_at (l := rest) (n := 16 + p.length) (by omega)
  refine ⟨c, ?_⟩
  have hb := bodyB_length k p
  unfold recW
  rw [show ((pre.length, 0) :: (pre.length + 17 + p.length, 0) :: (at_ (pre.length + 1) (bodyB k p) ++ [(pre.length, mark)]) : List (Nat × UInt8)) = [(pre.length, 0)] ++ ([(pre.length + 17 + p.length, 0)] ++ (at_ (pre.length + 1) (bodyB k p) ++ [(pre.length, mark)])) from rfl]
  rw [setAll_append, setAll_append, setAll_append]
  have e1 : setAll (pre ++ 0 :: (a ++ x :: c)) [(pre.length, 0)] = pre ++ 0 :: (a ++ x :: c) := set_mid _ _ _ _
  have e2 : setAll (pre ++ 0 :: (a ++ x :: c)) [(pre.length + 17 + p.length, 0)] = pre ++ 0 :: (a ++ 0 :: c) := by
    have := set_mid (pre ++ 0 :: a) x 0 c
    simp only [List.append_assoc, List.cons_append] at this
    show (pre ++ 0 :: (a ++ x :: c)).set (pre.length + 17 + p.length) 0 = _
    rw [show pre.length + 17 + p.length = (pre ++ 0 :: a).length by simp; omega]
    exact this
  have e3 : setAll (pre ++ 0 :: (a ++ 0 :: c)) (at_ (pre.length + 1) (bodyB k p)) = pre ++ 0 :: (bodyB k p ++ 0 :: c) := by
    have := setAll_at (bodyB k p) (pre ++ [0]) a (0 :: c) (by omega)
    simp only [List.append_assoc, List.cons_append, List.nil_append, List.length_append, List.length_singleton] at this
    exact this
  rw [e1, e2, e3]
  show (pre ++ 0 :: (bodyB k p ++ 0 :: c)).set pre.length mark = _
  rw [set_mid]; simp
theorem recW_part {pre rest : List UInt8} {mark : UInt8} {k : Nat} {p : List UInt8} {n : Nat} (hn : n < (recW pre.length mark k p).length) : ∃ rest', setAll (pre ++ 0 :: rest) ((recW pre.length mark k p).take n) = pre ++ 0 :: rest' := by
  refine keep_zero _ _ _ fun w hw => ?_
  have hl := recW_length pre.length mark k p
  have : w ∈ ((pre.length, 0) :: (pre.length + 17 + p.length, 0) :: at_ (pre.length + 1) (bodyB k p) : List (Nat × UInt8)) := by
    have h2 : recW pre.length mark k p = ((pre.length, 0) :: (pre.length + 17 + p.length, 0) :: at_ (pre.length + 1) (bodyB k p)) ++ [(pre.length, mark)] := rfl
    rw [h2] at hw hn
    rw [List.take_append_of_le_length (by simp at hn ⊢; omega)] at hw
    exact List.mem_of_mem_take hw
  simp only [List.mem_cons] at this
  rcases this with rfl | rfl | h
  · exact .inr ⟨rfl, rfl⟩
  · left; simp only; omega
  · have := at_mem h; left; omega
theorem appW_shift (m : JM) (l : JL) (p : List UInt8) : appW m l p = shift (l.bank * m.size) (recW l.fin 165 l.next p) := by
  simp only [appW, recW, shift, List.map_cons, List.map_append, List.map_nil]
  rw [← shift, shift_at]
  simp only [Nat.add_assoc]
theorem recW_lt {o : Nat} {mark : UInt8} {k : Nat} {p : List UInt8} {S : Nat} (h : o + 17 + p.length < S) : ∀ w ∈ recW o mark k p, w.1 < S := by
  intro w hw
  have hb := bodyB_length k p
  simp only [recW, List.mem_cons, List.mem_append, List.not_mem_nil, or_false] at hw
  rcases hw with rfl | rfl | hw | rfl
  · simp only; omega
  · simp only; omega
  · have := at_mem hw; omega
  · simp only; omega
theorem lastN_snoc : ∀ (rs : List JR) (r : JR) (k : Nat), lastN k (rs ++ [r]) = r.num
  | [], _, _ => rfl
  | x :: rs, r, k => lastN_snoc rs r x.num
theorem chain_snoc : ∀ (rs : List JR) (r : JR) (k : Nat), Chain k rs → (lastN k rs = 0 → 1 ≤ r.num ∧ r.num ≤ 1099511627776) → (lastN k rs ≠ 0 → r.num = lastN k rs + 1 ∧ r.state = false) → r.num < 4611686018427387904 → r.data.length < 4294967296 → Chain k (rs ++ [r])
  | [], r, k, _, h1, h2, h3, h4 => ⟨h1, h2, h3, h4, trivial⟩
  | x :: rs, r, k, ⟨a, b, c, d, e⟩, h1, h2, h3, h4 => ⟨a, b, c, d, chain_snoc rs r x.num e h1 h2 h3 h4⟩
theorem encs_snoc (rs : List JR) (r : JR) : encs (rs ++ [r]) = encs rs ++ encR r := by simp [encs]
theorem Good.size {d : List UInt8} {l : JL} {rs : List JR} (h : Good d l rs) (b : Nat) (hb : b < 2) : (bankB d b).length = d.length / 2 := bankB_len hb

/-- a record appended whole -/
theorem Good.append {d : List UInt8} {l : JL} {rs : List JR} (h : Good d l rs) {p : List UInt8} (hp : p.length < 4294967296) (hfit : l.fin + 17 + p.length < d.length / 2) (hnext : l.next ≤ 1099511627776) :
    Good (setAll d (shift (l.bank * (d.length / 2)) (recW l.fin 165 l.next p))) {l with fin := l.fin + 17 + p.length, next := l.next + 1} (rs ++ [⟨l.next, false, p⟩]) := by
  obtain ⟨b1, b2⟩ := banks_setAll (recW l.fin 165 l.next p) d l.bank h.bank (recW_lt hfit)
  have hlen := setAll_length d (shift (l.bank * (d.length / 2)) (recW l.fin 165 l.next p))
  obtain ⟨rest, hb⟩ := h.act
  have hbl := bankB_len (d := d) h.bank
  have hpl : (headB l.gen ++ encs rs).length = l.fin := by rw [h.fin]; simp [headB_length]
  rw [hb] at hbl b1
  obtain ⟨rest', hw⟩ := recW_full (pre := headB l.gen ++ encs rs) (rest := rest) (mark := 165) (k := l.next) (p := p) (by simp [headB_length] at hbl; have := h.fin; omega)
  rw [hpl] at hw
  refine ⟨by rw [hlen]; exact h.even, by rw [hlen]; exact h.low, h.bank, ?_, ?_, h.gen, ?_, ?_, ?_⟩
  · refine ⟨rest', ?_⟩
    rw [b1, hw, encs_snoc]
    simp [encR]
  · rw [b2]; exact h.oth
  · refine chain_snoc rs _ 0 h.chain (fun h0 => ?_) (fun h0 => ?_) (by simp only; omega) hp
    · simp only; have := h.next; omega
    · simp only; have := h.next; exact ⟨by omega, trivial⟩
  · rw [encs_snoc, List.length_append, encR_length]
    simp only; have := h.fin; omega
  · rw [lastN_snoc]
/-- a record appended in part -/
theorem Good.part {d : List UInt8} {l : JL} {rs : List JR} (h : Good d l rs) {p : List UInt8} (hfit : l.fin + 17 + p.length < d.length / 2) {n : Nat} (hn : n < 19 + p.length) :
    Good (setAll d ((shift (l.bank * (d.length / 2)) (recW l.fin 165 l.next p)).take n)) l rs := by
  rw [shift_take]
  obtain ⟨b1, b2⟩ := banks_setAll ((recW l.fin 165 l.next p).take n) d l.bank h.bank (fun w hw => recW_lt hfit w (List.mem_of_mem_take hw))
  have hlen := setAll_length d (shift (l.bank * (d.length / 2)) ((recW l.fin 165 l.next p).take n))
  obtain ⟨rest, hb⟩ := h.act
  have hpl : (headB l.gen ++ encs rs).length = l.fin := by rw [h.fin]; simp [headB_length]
  rw [hb] at b1
  obtain ⟨rest', hw⟩ := recW_part (pre := headB l.gen ++ encs rs) (rest := rest) (mark := 165) (k := l.next) (p := p) (n := n) (by rw [recW_length]; exact hn)
  rw [hpl] at hw
  refine ⟨by rw [hlen]; exact h.even, by rw [hlen]; exact h.low, h.bank, ⟨rest', ?_⟩, ?_, h.gen, h.chain, h.fin, h.next⟩
  · rw [b1, hw]
  · rw [b2]; exact h.oth
/-! ### a state that replaces all -/
def stW (g k : Nat) (p : List UInt8) : List (Nat × UInt8) := (0, 0) :: (at_ 1 (sealB (leB 8 g)) ++ (recW 13 166 k p ++ [(0, 183)]))
theorem stW_length (g k : Nat) (p : List UInt8) : (stW g k p).length = 33 + p.length := by simp [stW, at_length, recW_length, sealB_length, leB_length]; omega
theorem cmpW_shift (m : JM) (l : JL) (p : List UInt8) : cmpW m l p = shift ((1 - l.bank) * m.size) (stW (l.gen + 1) l.next p) := by
  simp only [cmpW, stW, recW, shift, List.map_cons, List.map_append, List.map_nil]
  rw [← shift, ← shift, shift_at, shift_at]
  simp only [Nat.add_assoc, Nat.add_zero, List.cons_append, List.append_assoc, List.nil_append]
theorem stW_full {b : List UInt8} {g k : Nat} {p : List UInt8} (h : 30 + p.length < b.length) : ∃ rest, setAll b (stW g k p) = headB g ++ (166 :: bodyB k p) ++ 0 :: rest := by
  obtain ⟨x, b1, rfl⟩ : ∃ x b1, b = x :: b1 := by
    cases b with
    | nil => simp at h
    | cons x b1 => exact ⟨x, b1, rfl⟩
  obtain ⟨a, y, c, rfl, ha⟩ := split_at (l := b1) (n := 12) (by simp at h; omega)
  have hs : (sealB (leB 8 g)).length = 12 := by rw [sealB_length, leB_length]
  unfold stW
  rw [show ((0, 0) :: (at_ 1 (sealB (leB 8 g)) ++ (recW 13 166 k p ++ [(0, 183)])) : List (Nat × UInt8)) = [(0, 0)] ++ (at_ 1 (sealB (leB 8 g)) ++ (recW 13 166 k p ++ [(0, 183)])) from rfl]
  rw [setAll_append, setAll_append, setAll_append]
  have e1 : setAll (x :: (a ++ y :: c)) [(0, 0)] = 0 :: (a ++ y :: c) := rfl
  have e2 : setAll (0 :: (a ++ y :: c)) (at_ 1 (sealB (leB 8 g))) = 0 :: (sealB (leB 8 g) ++ y :: c) := by
    have := setAll_at (sealB (leB 8 g)) [0] a (y :: c) (by omega)
    simpa using this
  obtain ⟨rest', e3⟩ := recW_full (pre := 0 :: sealB (leB 8 g)) (rest := c) (mark := 166) (k := k) (p := p) (by simp [ha] at h; omega)
  have e3' : setAll (0 :: (sealB (leB 8 g) ++ y :: c)) (recW 13 166 k p) = 0 :: (sealB (leB 8 g) ++ (166 :: bodyB k p) ++ 0 :: rest') := by
    have hl : (0 :: sealB (leB 8 g)).length = 13 := by simp [hs]
    rw [hl] at e3
    have e4 : setAll (0 :: (sealB (leB 8 g) ++ y :: c)) (recW 13 166 k p) = setAll (0 :: (sealB (leB 8 g) ++ 0 :: c)) (recW 13 166 k p) := by
      have e5 : ∀ z : UInt8, setAll (0 :: (sealB (leB 8 g) ++ z :: c)) [(13, 0)] = 0 :: (sealB (leB 8 g) ++ 0 :: c) := fun z => by
        have := set_mid (0 :: sealB (leB 8 g)) z 0 c
        rw [hl] at this
        show (0 :: (sealB (leB 8 g) ++ z :: c)).set 13 0 = _
        simpa using this
      have e6 : ∀ z : UInt8, setAll (0 :: (sealB (leB 8 g) ++ z :: c)) (recW 13 166 k p) = setAll (setAll (0 :: (sealB (leB 8 g) ++ z :: c)) [(13, 0)]) ((13 + 17 + p.length, 0) :: (at_ (13 + 1) (bodyB k p) ++ [(13, 166)])) := fun z => rfl
      rw [e6, e6, e5, e5]
    rw [e4]
    simpa using e3
  refine ⟨rest', ?_⟩
  rw [e1, e2, e3']
  simp [setAll, headB]
theorem stW_part {b : List UInt8} {g k : Nat} {p : List UInt8} {n : Nat} (hb : b ≠ []) (h0 : 0 < n) (hn : n < (stW g k p).length) : (setAll b ((stW g k p).take n))[0]! = 0 := by
  obtain ⟨x, b1, rfl⟩ : ∃ x b1, b = x :: b1 := by
    cases b with
    | nil => exact absurd rfl hb
    | cons x b1 => exact ⟨x, b1, rfl⟩
  obtain ⟨n, rfl⟩ : ∃ q, n = q + 1 := ⟨n - 1, by omega⟩
  have hl := stW_length g k p
  have h1 : (stW g k p).take (n + 1) = (0, 0) :: (at_ 1 (sealB (leB 8 g)) ++ recW 13 166 k p).take n := by
    rw [stW, List.take_succ_cons, ← List.append_assoc, List.take_append_of_le_length]
    simp only [List.length_append, at_length, recW_length, sealB_length, leB_length]
    omega
  rw [h1]
  obtain ⟨rest', e⟩ := keep_zero ((at_ 1 (sealB (leB 8 g)) ++ recW 13 166 k p).take n) [] b1 (fun w hw => by
    have hw := List.mem_of_mem_take hw
    left
    simp only [List.length_nil]
    rcases List.mem_append.1 hw with hw | hw
    · have := at_mem hw; omega
    · simp only [recW, List.mem_cons, List.mem_append, List.not_mem_nil, or_false] at hw
      rcases hw with rfl | rfl | hw | rfl
      · simp
      · simp only; omega
      · have := at_mem hw; omega
      · simp)
  have : setAll (x :: b1) ((0, 0) :: (at_ 1 (sealB (leB 8 g)) ++ recW 13 166 k p).take n) = setAll ([] ++ 0 :: b1) ((at_ 1 (sealB (leB 8 g)) ++ recW 13 166 k p).take n) := rfl
  rw [this, e]; rfl
theorem other {b : Nat} (h : b < 2) : 1 - (1 - b) = b ∧ 1 - b < 2 := by omega
theorem Good.compact {d : List UInt8} {l : JL} {rs : List JR} (h : Good d l rs) {p : List UInt8} (hp : p.length < 4294967296) (hfit : 30 + p.length < d.length / 2) (hnext : l.next ≤ 1099511627776) (hgen : l.gen + 1 < 9223372036854775808) (t : Bool) :
    Good (setAll d (shift ((1 - l.bank) * (d.length / 2)) (stW (l.gen + 1) l.next p))) {l with bank := 1 - l.bank, gen := l.gen + 1, fin := 30 + p.length, next := l.next + 1, damaged := t} [⟨l.next, true, p⟩] := by
  obtain ⟨o1, o2⟩ := other h.bank
  obtain ⟨b1, b2⟩ := banks_setAll (stW (l.gen + 1) l.next p) d (1 - l.bank) o2 (fun w hw => by
    simp only [stW, List.mem_cons, List.mem_append, List.not_mem_nil, or_false] at hw
    rcases hw with rfl | hw | hw | rfl
    · simp only; omega
    · have := at_mem hw; rw [sealB_length, leB_length] at this; omega
    · exact recW_lt (by omega) w hw
    · simp only; omega)
  have hlen := setAll_length d (shift ((1 - l.bank) * (d.length / 2)) (stW (l.gen + 1) l.next p))
  have hbl := bankB_len (d := d) o2
  obtain ⟨rest, hw⟩ := stW_full (b := bankB d (1 - l.bank)) (g := l.gen + 1) (k := l.next) (p := p) (by omega)
  rw [o1] at b2
  have hnz := h.next
  refine ⟨by rw [hlen]; exact h.even, by rw [hlen]; exact h.low, o2, ⟨rest, ?_⟩, ?_, hgen, ?_, ?_, rfl⟩
  · simp only; rw [b1, hw]; simp [encs, encR]
  · simp only
    rw [o1, b2]
    intro g hg
    rw [bank_gen h.act (Nat.lt_trans h.gen (by decide))] at hg
    cases hg; omega
  · exact ⟨fun _ => ⟨by simp only; omega, by simp only; omega⟩, fun h0 => absurd rfl h0, by simp only; omega, hp, trivial⟩
  · simp [encs, encR_length]; omega
theorem Good.cpart {d : List UInt8} {l : JL} {rs : List JR} (h : Good d l rs) {p : List UInt8} (hfit : 30 + p.length < d.length / 2) {n : Nat} (hn : n < 33 + p.length) :
    Good (setAll d ((shift ((1 - l.bank) * (d.length / 2)) (stW (l.gen + 1) l.next p)).take n)) l rs := by
  by_cases h0 : n = 0
  · subst h0; exact h
  obtain ⟨o1, o2⟩ := other h.bank
  rw [shift_take]
  obtain ⟨b1, b2⟩ := banks_setAll ((stW (l.gen + 1) l.next p).take n) d (1 - l.bank) o2 (fun w hw => by
    have hw := List.mem_of_mem_take hw
    simp only [stW, List.mem_cons, List.mem_append, List.not_mem_nil, or_false] at hw
    rcases hw with rfl | hw | hw | rfl
    · simp only; omega
    · have := at_mem hw; rw [sealB_length, leB_length] at this; omega
    · exact recW_lt (by omega) w hw
    · simp only; omega)
  have hlen := setAll_length d (shift ((1 - l.bank) * (d.length / 2)) ((stW (l.gen + 1) l.next p).take n))
  have hbl := bankB_len (d := d) o2
  have hz := stW_part (b := bankB d (1 - l.bank)) (g := l.gen + 1) (k := l.next) (p := p) (n := n) (by intro e; rw [e] at hbl; simp at hbl; have := h.low; omega) (by omega) (by rw [stW_length]; exact hn)
  rw [o1] at b2
  refine ⟨by rw [hlen]; exact h.even, by rw [hlen]; exact h.low, h.bank, ?_, ?_, h.gen, h.chain, h.fin, h.next⟩
  · rw [b2]; exact h.act
  · rw [b1]
    intro g hg
    rw [gen_zero hz] at hg; cases hg
/-- a journal as it is made -/
theorem good_new {n : Nat} (h : 64 ≤ n) : Good (newB n) ⟨0, 1, 13, 1, false, false⟩ [] := by
  have hl : (newB n).length = 2 * n := by simp [newB, sealB_length, leB_length]; omega
  have hd : (newB n).length / 2 = n := by omega
  have hb0 : bankB (newB n) 0 = headB 1 ++ 0 :: List.replicate (n - 14) 0 := by
    refine sub_of (a := []) (c := List.replicate n 0) ?_ (by simp) ?_
    · have : 2 * n - 13 = (n - 14) + 1 + n := by omega
      rw [newB, this, ← List.replicate_append_replicate, List.replicate_succ]
      simp [headB]
    · simp [headB_length, hd]; omega
  have hb1 : (bankB (newB n) 1)[0]! = 0 := by
    have := bankB_get (d := newB n) (b := 1) (x := 0) (by decide) (by omega)
    rw [List.getElem!_eq_getElem?_getD, this, hd, newB, List.getElem?_append_right (by simp [sealB_length, leB_length]; omega), List.getElem?_replicate]
    split <;> rfl
  refine ⟨by omega, by omega, by decide, ⟨List.replicate (n - 14) 0, by rw [hb0]; simp [encs]⟩, fun g hg => ?_, by decide, trivial, rfl, rfl⟩
  have hg : genB (bankB (newB n) 1) = some g := hg
  rw [gen_zero hb1] at hg
  cases hg
end Go.Gh
