/-
  Plain: a memory of two banks, and the journal on it, as functions of bytes.
-/
import Derived.Test.YtbficpmoppailaaJnC
namespace Go.Gh
set_option linter.unusedSimpArgs false
set_option linter.unusedVariables false
set_option maxHeartbeats 4000000

/-- a memory -/
structure JM where
  data : List UInt8
  armed : Bool
  left : Int
  off : Bool
/-- a journal that is written -/
structure JL where
  bank : Nat
  gen : Nat
  fin : Nat
  next : Nat
  broken : Bool
  damaged : Bool
structure JR where
  num : Nat
  state : Bool
  data : List UInt8
  deriving Inhabited
def JM.size (m : JM) : Nat := m.data.length / 2
def sub (l : List UInt8) (a b : Nat) : List UInt8 := (l.drop a).take (b - a)
def bankB (d : List UInt8) (i : Nat) : List UInt8 := sub d (i * (d.length / 2)) ((i + 1) * (d.length / 2))
def genB (b : List UInt8) : Option Nat := if b[0]! ≠ 183 then none else (openB (sub b 1 13)).map leN
/-- the bank that counts, its generation -/
def chooseB (d : List UInt8) : Option (Nat × Nat) :=
  match genB (bankB d 0), genB (bankB d 1) with
  | none, none => none
  | some a, none => some (0, a)
  | none, some b => some (1, b)
  | some a, some b => if a < b then some (1, b) else some (0, a)
def readB (b : List UInt8) (o last : Nat) : Option JR :=
  if (b[o]! ≠ 165 ∧ (b[o]! ≠ 166 ∨ last ≠ 0)) ∨ b.length ≤ o + 17 then none
  else if b.length - o - 17 ≤ leN (sub b (o + 1) (o + 5)) then none
  else match openB (sub b (o + 1) (o + 17 + leN (sub b (o + 1) (o + 5)))) with
    | none => none
    | some p =>
      if last = 0 ∧ (leN (sub p 4 12) < 1 ∨ 1099511627776 < leN (sub p 4 12)) ∨ last ≠ 0 ∧ leN (sub p 4 12) ≠ last + 1 then none
      else some ⟨leN (sub p 4 12), b[o]! == 166, p.drop 12⟩
/-- the records from a byte on: what was read, the end, the last number, whether it ends in damage -/
def recsB (b : List UInt8) : Nat → Nat → Nat → List JR × Nat × Nat × Bool
  | 0, o, last => ([], o, last, false)
  | k + 1, o, last =>
    if b[o]! = 0 then ([], o, last, false) else
    match readB b o last with
    | none => ([], o, last, true)
    | some r => (r :: (recsB b k (o + 17 + r.data.length) r.num).1, (recsB b k (o + 17 + r.data.length) r.num).2)
def openJ (d : List UInt8) : Option (JL × List JR) :=
  match chooseB d with
  | none => none
  | some (i, g) =>
    let b := bankB d i
    let r := recsB b b.length 13 0
    some (⟨i, g, r.2.1, r.2.2.1 + 1, false, r.2.2.2⟩, r.1)
/-- bytes written one after another; whether all were -/
def wrB (m : JM) : List (Nat × UInt8) → JM × Bool
  | [] => (m, !m.off)
  | (o, b) :: r =>
    if m.off || (m.armed && m.left == 0) then ({m with off := true}, false)
    else wrB {m with left := IntKind.i64.wrap (m.left - 1), data := m.data.set o b} r
def at_ (o : Nat) : List UInt8 → List (Nat × UInt8)
  | [] => []
  | b :: r => (o, b) :: at_ (o + 1) r
def refB (m : JM) (l : JL) (o n : Nat) : Int :=
  if 1099511627776 < l.next then 9 else if m.size ≤ o + 17 + n then 20 else if l.broken || m.off then 21 else 0
def JL.broke (l : JL) : JL := {l with broken := true}
def bodyB (k : Nat) (p : List UInt8) : List UInt8 := sealB (leB 4 p.length ++ (leB 8 k ++ p))
def appW (m : JM) (l : JL) (p : List UInt8) : List (Nat × UInt8) :=
  let o := l.bank * m.size + l.fin
  (o, 0) :: (o + 17 + p.length, 0) :: (at_ (o + 1) (bodyB l.next p) ++ [(o, 165)])
def appendJ (m : JM) (l : JL) (p : List UInt8) : JM × JL × Nat × Int :=
  let e := refB m l l.fin p.length
  if e = 21 then (m, l.broke, 0, 21) else if e ≠ 0 then (m, l, 0, e) else
  let r := wrB m (appW m l p)
  if r.2 then (r.1, {l with fin := l.fin + 17 + p.length, next := l.next + 1}, l.next, 0) else (r.1, l.broke, 0, 21)
def cmpW (m : JM) (l : JL) (p : List UInt8) : List (Nat × UInt8) :=
  let base := (1 - l.bank) * m.size
  let o := base + 13
  (base, 0) :: (at_ (base + 1) (sealB (leB 8 (l.gen + 1))) ++ ((o, 0) :: (o + 17 + p.length, 0) :: (at_ (o + 1) (bodyB l.next p) ++ [(o, 166), (base, 183)])))
def compactJ (m : JM) (l : JL) (p : List UInt8) : JM × JL × Nat × Int :=
  let e := refB m l 13 p.length
  if e = 21 then (m, l.broke, 0, 21) else if e ≠ 0 then (m, l, 0, e) else
  let r := wrB m (cmpW m l p)
  if r.2 then (r.1, {l with bank := 1 - l.bank, gen := (l.gen + 1) % 18446744073709551616, fin := 30 + p.length, next := l.next + 1, damaged := false}, l.next, 0) else (r.1, l.broke, 0, 21)
def freeJ (m : JM) (l : JL) : Int := max ((m.size : Int) - l.fin - 18) (-1)
/-- a memory as it is made -/
def newB (size : Nat) : List UInt8 := (183 :: sealB (leB 8 1)) ++ List.replicate (2 * size - 13) 0

/-! ### writing -/
theorem at_append : ∀ (a b : List UInt8) (o : Nat), at_ o (a ++ b) = at_ o a ++ at_ (o + a.length) b
  | [], b, o => by simp [at_]
  | x :: a, b, o => by simp only [List.cons_append, at_, at_append a b, List.length_cons]; rw [show o + 1 + a.length = o + (a.length + 1) by omega]
theorem at_length : ∀ (a : List UInt8) (o : Nat), (at_ o a).length = a.length
  | [], _ => rfl
  | x :: a, o => by simp [at_, at_length a]
theorem wrB_append : ∀ (a b : List (Nat × UInt8)) (m : JM), wrB m (a ++ b) = if (wrB m a).2 = true then wrB (wrB m a).1 b else wrB m a
  | [], b, m => by
    cases h : m.off with
    | false => simp [wrB, h]
    | true =>
      cases b with
      | nil => simp [wrB, h]
      | cons p r => obtain ⟨d, a, l, o⟩ := m; simp only at h; subst h; simp [wrB]
  | (o, x) :: a, b, m => by
    by_cases hc : (m.off || (m.armed && m.left == 0)) = true
    · simp only [List.cons_append, wrB, hc, if_true]; rfl
    · simp only [List.cons_append, wrB, hc]
      exact wrB_append a b _
theorem wrB_on : ∀ (l : List (Nat × UInt8)) (m : JM), (wrB m l).2 = true → (wrB m l).1.off = false
  | [], m, h => by simpa [wrB] using h
  | (o, b) :: r, m, h => by
    by_cases hc : (m.off || (m.armed && m.left == 0)) = true
    · simp [wrB, hc] at h
    · simp only [wrB, hc] at h ⊢
      exact wrB_on r _ h
theorem wrB_length : ∀ (l : List (Nat × UInt8)) (m : JM), (wrB m l).1.data.length = m.data.length
  | [], m => rfl
  | (o, b) :: r, m => by
    by_cases hc : (m.off || (m.armed && m.left == 0)) = true
    · simp [wrB, hc]
    · simp only [wrB, hc]
      have := wrB_length r {m with left := IntKind.i64.wrap (m.left - 1), data := m.data.set o b}
      simp only [List.length_set] at this
      exact this
/-- what writing comes to, from a memory that is on -/
def setAll (d : List UInt8) (l : List (Nat × UInt8)) : List UInt8 := l.foldl (fun d p => d.set p.1 p.2) d
theorem setAll_length (d : List UInt8) (l : List (Nat × UInt8)) : (setAll d l).length = d.length := by
  induction l generalizing d with
  | nil => rfl
  | cons p r ih => show (setAll _ r).length = _; rw [ih]; simp
theorem setAll_append (d : List UInt8) (a b : List (Nat × UInt8)) : setAll d (a ++ b) = setAll (setAll d a) b := by simp [setAll, List.foldl_append]
theorem wrB_free : ∀ (l : List (Nat × UInt8)) (m : JM), m.off = false → m.armed = false → (wrB m l).2 = true ∧ (wrB m l).1.data = setAll m.data l ∧ (wrB m l).1.off = false ∧ (wrB m l).1.armed = false
  | [], m, h, h2 => by simp [wrB, h, h2, setAll]
  | (o, b) :: r, m, h, h2 => by
    simp only [wrB, h, h2, Bool.false_or, Bool.false_and, Bool.false_eq_true, if_false]
    exact wrB_free r _ rfl rfl
theorem wrB_armed : ∀ (l : List (Nat × UInt8)) (m : JM), m.off = false → m.armed = true → 0 ≤ m.left → m.left < 9223372036854775807 →
    (wrB m l).2 = decide ((l.length : Int) ≤ m.left) ∧ (wrB m l).1.data = setAll m.data (l.take m.left.toNat) ∧ (wrB m l).1.off = decide (m.left < l.length) ∧ (wrB m l).1.armed = true ∧ (0 ≤ (wrB m l).1.left ∧ (wrB m l).1.left ≤ m.left)
  | [], m, h, h2, h3, h4 => by simp [wrB, h, h2, setAll, h3]
  | (o, b) :: r, m, h, h2, h3, h4 => by
    simp only [wrB, h, h2, Bool.false_or, Bool.true_and]
    by_cases h0 : m.left = 0
    · simp [h0, setAll]
    · have hw : IntKind.i64.wrap (m.left - 1) = m.left - 1 := wr_i64 (by omega)
      simp only [beq_iff_eq, h0, if_false, hw]
      obtain ⟨e1, e2, e3, e4, e5⟩ := wrB_armed r ⟨m.data.set o b, true, m.left - 1, false⟩ rfl rfl (by simp; omega) (by simp; omega)
      refine ⟨?_, ?_, ?_, e4, ?_⟩
      · rw [e1]; simp only [List.length_cons]; congr 1; simp only [eq_iff_iff]; omega
      · rw [e2]
        have : m.left.toNat = (m.left - 1).toNat + 1 := by omega
        rw [this, List.take_succ_cons]; rfl
      · rw [e3]; simp only [List.length_cons]; congr 1; simp only [eq_iff_iff]; omega
      · have := e5.2; simp only at this; omega
end Go.Gh
