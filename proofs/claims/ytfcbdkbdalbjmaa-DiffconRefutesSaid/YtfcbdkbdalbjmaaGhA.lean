/-
  A small machine over a ghost heap: objects with names of their own, no order left open, no capacity drawn. Its definitions.
-/
import Derived.WalkKit
import Derived.Below
import Derived.Test.YtfcbdkbdalbjmaaGhZ
namespace Go.Gh
set_option linter.unusedVariables false
set_option linter.unusedSimpArgs false

/-! ### a tree of numbered things: what is read and set in it is found in a few steps -/
inductive Tr (α : Type) where
  | nil
  | node (l : Tr α) (v : Option α) (r : Tr α)
  deriving Inhabited
namespace Tr
variable {α : Type}
def getF : Nat → Tr α → Nat → Option α
  | _, .nil, _ => none
  | 0, .node _ v _, _ => v
  | k + 1, .node l v r, n => bif n == 0 then v else bif n % 2 == 1 then getF k l (n / 2) else getF k r (n / 2 - 1)
def setF : Nat → Tr α → Nat → α → Tr α
  | 0, .nil, _, x => .node .nil (some x) .nil
  | 0, .node l _ r, _, x => .node l (some x) r
  | k + 1, .nil, n, x => bif n == 0 then .node .nil (some x) .nil else bif n % 2 == 1 then .node (setF k .nil (n / 2) x) none .nil else .node .nil none (setF k .nil (n / 2 - 1) x)
  | k + 1, .node l v r, n, x => bif n == 0 then .node l (some x) r else bif n % 2 == 1 then .node (setF k l (n / 2) x) v r else .node l v (setF k r (n / 2 - 1) x)
def get (t : Tr α) (n : Nat) : Option α := getF n t n
def set (t : Tr α) (n : Nat) (x : α) : Tr α := setF n t n x
theorem getF_fuel : ∀ (k : Nat) (t : Tr α) (n : Nat), n ≤ k → getF k t n = getF n t n := by
  intro k
  induction k using Nat.strongRecOn with
  | _ k ih =>
    intro t n h
    cases t with
    | nil => simp [getF]
    | node l v r =>
      cases k with
      | zero => obtain rfl : n = 0 := by omega
                rfl
      | succ k =>
        cases n with
        | zero => simp [getF]
        | succ n =>
          simp only [getF]
          rw [ih k (by omega) l ((n + 1) / 2) (by omega), ih k (by omega) r ((n + 1) / 2 - 1) (by omega)]
          rcases Nat.lt_or_ge n k with h' | h'
          · rw [ih n (by omega) l ((n + 1) / 2) (by omega), ih n (by omega) r ((n + 1) / 2 - 1) (by omega)]
          · obtain rfl : n = k := by omega
            rw [ih n (by omega) l ((n + 1) / 2) (by omega), ih n (by omega) r ((n + 1) / 2 - 1) (by omega)]
theorem get_setF : ∀ (k : Nat) (t : Tr α) (n m : Nat) (x : α), n ≤ k → m ≤ k → getF k (setF k t n x) m = if n = m then some x else getF k t m := by
  intro k
  induction k with
  | zero =>
    intro t n m x hn hm
    obtain rfl : n = 0 := by omega
    obtain rfl : m = 0 := by omega
    cases t <;> simp [setF, getF]
  | succ k ih =>
    intro t n m x hn hm
    have key : ∀ (l : Tr α) (v : Option α) (r : Tr α), getF (k + 1) (bif n == 0 then .node l (some x) r else bif n % 2 == 1 then .node (setF k l (n / 2) x) v r else .node l v (setF k r (n / 2 - 1) x)) m = if n = m then some x else getF (k + 1) (.node l v r) m := by
      intro l v r
      by_cases h0 : n = 0
      · subst h0
        by_cases hm0 : m = 0
        · subst hm0; simp [getF]
        · have : ¬ 0 = m := by omega
          simp [getF, (by simpa using hm0 : (m == 0) = false), this]
      · by_cases h1 : n % 2 = 1
        · simp only [h1, cond_false, cond_true, (by simpa using h0 : (n == 0) = false), beq_self_eq_true]
          by_cases hm0 : m = 0
          · subst hm0; simp [getF, h0]
          · by_cases hm1 : m % 2 = 1
            · simp only [getF, (by simpa using hm0 : (m == 0) = false), hm1, cond_false, beq_self_eq_true, cond_true]
              rw [ih _ _ _ _ (by omega) (by omega)]
              by_cases e : n = m
              · subst e; simp
              · rw [if_neg e, if_neg (by omega)]
            · have e : ¬ n = m := by rintro rfl; exact hm1 h1
              simp only [getF, (by simpa using hm0 : (m == 0) = false), cond_false, (by simpa using hm1 : (m % 2 == 1) = false), if_neg e]
        · simp only [(by simpa using h0 : (n == 0) = false), (by simpa using h1 : (n % 2 == 1) = false), cond_false]
          by_cases hm0 : m = 0
          · subst hm0; simp [getF, h0]
          · by_cases hm1 : m % 2 = 1
            · have e : ¬ n = m := by rintro rfl; exact h1 hm1
              simp only [getF, (by simpa using hm0 : (m == 0) = false), hm1, cond_false, beq_self_eq_true, cond_true, if_neg e]
            · simp only [getF, (by simpa using hm0 : (m == 0) = false), cond_false, (by simpa using hm1 : (m % 2 == 1) = false)]
              rw [ih _ _ _ _ (by omega) (by omega)]
              by_cases e : n = m
              · subst e; simp
              · rw [if_neg e, if_neg (by omega)]
    cases t with
    | nil =>
      have := key .nil none .nil
      have hz : getF (k + 1) (.node .nil none .nil : Tr α) m = getF (k + 1) .nil m := by
        simp only [getF]; cases m == 0 <;> cases m % 2 == 1 <;> rfl
      rw [hz] at this
      exact this
    | node l v r => exact key l v r
theorem setF_fuel : ∀ (k : Nat) (t : Tr α) (n : Nat) (x : α), n ≤ k → setF k t n x = setF n t n x := by
  intro k
  induction k using Nat.strongRecOn with
  | _ k ih =>
    intro t n x h
    cases k with
    | zero => obtain rfl : n = 0 := by omega
              rfl
    | succ k =>
      cases n with
      | zero => cases t <;> simp [setF]
      | succ n =>
        have e : ∀ t : Tr α, setF k t ((n + 1) / 2) x = setF n t ((n + 1) / 2) x ∧ setF k t ((n + 1) / 2 - 1) x = setF n t ((n + 1) / 2 - 1) x := fun t =>
          ⟨by rw [ih k (by omega) t _ x (by omega)]; rcases Nat.lt_or_ge n k with h' | h'
              · rw [ih n (by omega) t _ x (by omega)]
              · obtain rfl : n = k := by omega
                rw [ih n (by omega) t _ x (by omega)],
           by rw [ih k (by omega) t _ x (by omega)]; rcases Nat.lt_or_ge n k with h' | h'
              · rw [ih n (by omega) t _ x (by omega)]
              · obtain rfl : n = k := by omega
                rw [ih n (by omega) t _ x (by omega)]⟩
        cases t <;> simp only [setF, (e _).1, (e _).2]
theorem get_set (t : Tr α) (n m : Nat) (x : α) : (t.set n x).get m = if n = m then some x else t.get m := by
  unfold get set
  rw [← getF_fuel (max n m) _ m (by omega), ← setF_fuel (max n m) t n x (by omega), get_setF _ _ _ _ _ (by omega) (by omega), getF_fuel (max n m) t m (by omega)]
@[simp] theorem get_set_same (t : Tr α) (n : Nat) (x : α) : (t.set n x).get n = some x := by rw [get_set, if_pos rfl]
theorem get_set_ne (t : Tr α) {n m : Nat} (x : α) (h : n ≠ m) : (t.set n x).get m = t.get m := by rw [get_set, if_neg h]
@[simp] theorem get_nil (n : Nat) : (Tr.nil : Tr α).get n = none := by cases n <;> rfl
end Tr

/-! ### the ghost heap -/
inductive GObj where
  | dead (unit : Nat)
  | cells (cs : List Value) (unit : Nat) (own : Bool)
  | iter (s : ByteArray) (pos : Nat)
  deriving Inhabited
def GObj.unit : GObj → Nat
  | .dead u | .cells _ u _ => u
  | .iter _ _ => 0
/-- the cells of an element, by an object's unit: 0: nothing is ever appended; 257: bytes, in a row made as such -/
def usz (u : Nat) : Nat := if u = 257 then 1 else u
structure GHeap where
  t : Tr GObj
  len : Nat
  lim : Nat
  deriving Inhabited
def GHeap.obj (H : GHeap) (i : Nat) : Option GObj := H.t.get i
def GHeap.add (H : GHeap) : Option GObj → GHeap
  | none => H
  | some o => ⟨H.t.set H.len o, H.len + 1, H.lim⟩
def GHeap.put (H : GHeap) (i : Nat) (o : GObj) : GHeap := ⟨H.t.set i o, H.len, H.lim⟩
def GHeap.cs (H : GHeap) (i : Nat) : Option (List Value) :=
  match H.obj i with
  | some (.cells cs _ _) => some cs
  | _ => none
def GHeap.unit (H : GHeap) (i : Nat) : Option Nat := (H.obj i).map GObj.unit
/-- the cells of an object that may be written, and its unit -/
def GHeap.mine (H : GHeap) (i : Nat) : Option (List Value × Nat) :=
  if H.lim ≤ i then
    match H.obj i with
    | some (.cells cs u true) => some (cs, u)
    | _ => none
  else none
abbrev Fr := Tr Value

/-! ### values without addresses -/
def litFlat : Value → Bool
  | .bool _ | .int _ _ | .float _ _ | .complex _ _ _ | .string _ | .pointer none | .map none | .chan none | .nilFunc | .nilIface => true
  | .slice none n c => n == 0 && c == 0
  | _ => false
def litOk : Value → Bool
  | .agg cs => cs.all litFlat
  | .tuple cs => cs.isEmpty
  | v => litFlat v
def flatV : Value → Bool
  | .agg _ | .tuple _ => false
  | _ => true

/-! ### what is asked of types, ahead of the run -/
section
variable (P : Program)
def aggD : TypeDesc → Bool
  | .struct _ | .array _ _ => true
  | _ => false
def szK (t : TypeId) : Option Nat := (P.info? t).map (·.size)
def byK (t : TypeId) : Option Nat := (P.info? t).map (·.bytes)
def zeroK (t : TypeId) : Option Value := (P.info? t).bind fun i => i.zero.bind fun z => if z.cells.all litFlat && litOk z then some z else none
/-- 'none': one cell; 'some n': a struct or an array of n cells -/
def ldK (t : TypeId) : Option (Option Nat) :=
  match P.underlying t with
  | none => none
  | some d => if aggD d then (szK P t).map some else some none
def stK (t : TypeId) : Option (Option Nat) :=
  match ldK P t with
  | some none => if szK P t = some 1 then some none else none
  | r => r
def faK (s : TypeId) (f : Nat) : Option Nat :=
  match P.underlying s with
  | some (.struct fs) => match fs[f]? with
    | some fd => match szK P fd.type with
      | some n => if n = 0 then none else some fd.offset
      | none => none
    | none => none
  | _ => none
def fldK (s : TypeId) (f : Nat) : Option (Nat × Option Nat) :=
  match P.underlying s with
  | some (.struct fs) => match fs[f]? with
    | some fd => (ldK P fd.type).map fun k => (fd.offset, k)
    | none => none
  | _ => none
/-- an index into a slice ('none') or an array's variable (its length), and the size of an element -/
def iaK (t : TypeId) : Option (Option Nat × Nat) :=
  match P.underlying t with
  | some (.slice e) => (szK P e).map fun n => (none, n)
  | some (.array len e) => (szK P e).map fun n => (some len, n)
  | _ => none
/-- an index into a string ('none') or an array's value: its length, an element's size and kind -/
def ixK (t : TypeId) : Option (Option (Nat × Nat × Option Nat)) :=
  match P.underlying t with
  | some .string => some none
  | some (.array len e) => match szK P e, ldK P e with
    | some n, some k => some (some (len, n, k))
    | _, _ => none
  | _ => none
/-- the unit of rows of elements of a type -/
def uK (e : TypeId) : Nat := if e = P.rt.byte then 257 else ((szK P e).map fun n => if n = 257 then 0 else n).getD 0
def elK (t : TypeId) : Option TypeId :=
  match P.underlying t with
  | some (.slice e) => some e
  | _ => none
inductive SlK where
  | str
  | sl (size : Nat)
  | arr (len size : Nat)
def slcK (t : TypeId) : Option SlK :=
  match P.underlying t with
  | some .string => some .str
  | some (.slice e) => (szK P e).map .sl
  | some (.array n e) => (szK P e).map (.arr n)
  | _ => none
inductive CvK where
  | int (k : IntKind)
  | strOfInt
  | same
  | bytes (u : Nat)
  | runes (u : Nat)
  | ofBytes
  | ofRunes
def cvK (src dst : TypeId) : Option CvK :=
  match P.underlying src, P.underlying dst with
  | some (.int _), some (.int k) => some (.int k)
  | some (.int _), some .string => some .strOfInt
  | some .string, some .string => some .same
  | some .string, some (.slice e) => match P.underlying e with
    | some (.int .u8) => if szK P e = some 1 then some (.bytes (uK P e)) else none
    | some (.int .i32) => if szK P e = some 1 then some (.runes (uK P e)) else none
    | _ => none
  | some (.slice e), some .string => match P.underlying e with
    | some (.int .u8) => some .ofBytes
    | some (.int .i32) => some .ofRunes
    | _ => none
  | _, _ => none
end

/-! ### operations that leave all objects as they are -/
def gld (k : Option Nat) (H : GHeap) : Value → Option Value
  | .pointer (some ⟨i, o, none⟩) => match H.cs i with
    | none => none
    | some cs => match k with
      | none => cs[o]?
      | some n => if o + n ≤ cs.length then some (.agg ((cs.drop o).take n).toArray) else none
  | _ => none
def gadd (n : Nat) : Value → Option Value
  | .pointer (some ⟨i, o, none⟩) => some (.pointer (some ⟨i, o + n, none⟩))
  | _ => none
def gpart (k : Option Nat) (off : Nat) : Value → Option Value
  | .agg cs => match k with
    | none => cs[off]?
    | some n => some (.agg (cs.extract off (off + n)))
  | _ => none
def gia (len : Option Nat) (size : Nat) (x i : Value) : Option Value :=
  match i with
  | .int _ j => match len, x with
    | none, .slice (some ⟨b, o, none⟩) n _ => if 0 ≤ j ∧ j < n then some (.pointer (some ⟨b, o + j.toNat * size, none⟩)) else none
    | some n, .pointer (some ⟨b, o, none⟩) => if 0 ≤ j ∧ j < n then some (.pointer (some ⟨b, o + j.toNat * size, none⟩)) else none
    | _, _ => none
  | _ => none
def gix (r : Option (Nat × Nat × Option Nat)) (x i : Value) : Option Value :=
  match i with
  | .int _ j => match r, x with
    | none, .string s => if 0 ≤ j then (s[j.toNat]?).map fun b => .int .u8 b.toNat else none
    | some (len, size, k), x => if 0 ≤ j ∧ j < len then gpart k (j.toNat * size) x else none
    | _, _ => none
  | _ => none
def gint (op : BinOp) (k : IntKind) (a b : Int) : Option Value :=
  match op with
  | .add => some (.int k (k.wrap (a + b)))
  | .sub => some (.int k (k.wrap (a - b)))
  | .mul => some (.int k (k.wrap (a * b)))
  | .quo => if b = 0 then none else some (.int k (k.wrap (a.tdiv b)))
  | .rem => if b = 0 then none else some (.int k (a.tmod b))
  | .and => some (.int k (k.wrap (BitVec.ofInt k.bits a &&& BitVec.ofInt k.bits b).toNat))
  | .or => some (.int k (k.wrap (BitVec.ofInt k.bits a ||| BitVec.ofInt k.bits b).toNat))
  | .xor => some (.int k (k.wrap (BitVec.ofInt k.bits a ^^^ BitVec.ofInt k.bits b).toNat))
  | .andNot => some (.int k (k.wrap (BitVec.ofInt k.bits a &&& ~~~BitVec.ofInt k.bits b).toNat))
  | .eql => some (.bool (a == b))
  | .neq => some (.bool (a != b))
  | .lss => some (.bool (a < b))
  | .leq => some (.bool (a ≤ b))
  | .gtr => some (.bool (a > b))
  | .geq => some (.bool (a ≥ b))
  | _ => none
def gshift (op : BinOp) (k : IntKind) (a b : Int) : Option Value :=
  if b < 0 then none else
  match op with
  | .shl => some (.int k (k.wrap (a * 2 ^ (min b.toNat k.bits))))
  | .shr => some (.int k (a.fdiv (2 ^ (min b.toNat k.bits))))
  | _ => none
def gstr (op : BinOp) (x y : ByteArray) : Option Value :=
  match op with
  | .add => if x.size + y.size ≤ 9223372036854775807 then some (.string (x ++ y)) else none
  | .eql => some (.bool (x.toList == y.toList))
  | .neq => some (.bool !(x.toList == y.toList))
  | .lss => some (.bool (Op.bytesLess x.toList y.toList))
  | .leq => some (.bool (Op.bytesLess x.toList y.toList || x.toList == y.toList))
  | .gtr => some (.bool !(Op.bytesLess x.toList y.toList || x.toList == y.toList))
  | .geq => some (.bool !Op.bytesLess x.toList y.toList)
  | _ => none

/-- what '==' looks at -/
inductive EqK where
  | bool | int | str | ptr | sl | fn | map
  | parts (l : List (Nat × Option Nat × EqK))
  deriving Inhabited
section
variable (P : Program)
def eqFields (rec : TypeId → Option EqK) : List Field → Option (List (Nat × Option Nat × EqK))
  | [] => some []
  | f :: fs =>
    if f.name = "_" then eqFields rec fs else
    match ldK P f.type, rec f.type, eqFields rec fs with
    | some k, some q, some r => some ((f.offset, k, q) :: r)
    | _, _, _ => none
def eqK : Nat → TypeId → Option EqK
  | 0, _ => none
  | d + 1, t =>
    match P.underlying t with
    | some .bool => some .bool
    | some (.int _) => some .int
    | some .string => some .str
    | some (.pointer _) => some .ptr
    | some (.slice _) => some .sl
    | some (.func _ _ _) => some .fn
    | some (.map _ _) => some .map
    | some (.struct fs) => if P.stoodInHeld t then none else (eqFields P (eqK d) fs.toList).map .parts
    | some (.array n e) => match szK P e, ldK P e, eqK d e with
      | some s, some k, some q => some (.parts ((List.range n).map fun i => (i * s, k, q)))
      | _, _, _ => none
    | _ => none
/-- '==' at a type: for structs and arrays no part may be an interface -/
def eqTopK (t : TypeId) : Option EqK :=
  match eqK P 12 t with
  | some (.parts l) => if P.eqGuardType P.depth t then none else some (.parts l)
  | r => r
end
def geqAll (rec : EqK → Value → Value → Option Bool) : List (Nat × Option Nat × EqK) → Array Value → Array Value → Option Bool
  | [], _, _ => some true
  | (off, k, q) :: r, xs, ys => match gpart k off (.agg xs), gpart k off (.agg ys) with
    | some a, some b => match rec q a b with
      | some true => geqAll rec r xs ys
      | z => z
    | _, _ => none
def geqIn : Nat → EqK → Value → Value → Option Bool
  | _, .bool, .bool a, .bool b => some (a == b)
  | _, .int, .int k a, .int k' b => if k = k' then some (a == b) else none
  | _, .str, .string a, .string b => some (a == b)
  | _, .ptr, .pointer none, .pointer b => some b.isNone
  | _, .ptr, .pointer (some _), .pointer none => some false
  | _, .sl, .slice none _ _, .slice b _ _ => some b.isNone
  | _, .sl, .slice (some _) _ _, .slice none _ _ => some false
  | _, .fn, .nilFunc, .nilFunc => some true
  | _, .fn, .nilFunc, .func _ _ _ => some false
  | _, .fn, .func _ _ _, .nilFunc => some false
  | _, .map, .map none, .map b => some b.isNone
  | _, .map, .map (some _), .map none => some false
  | d + 1, .parts l, .agg xs, .agg ys => geqAll (geqIn d) l xs ys
  | _, _, _, _ => none
def geq (q : EqK) (x y : Value) : Option Bool := geqIn 12 q x y
def gbin (op : BinOp) (e : Option EqK) (x y : Value) : Option Value :=
  match x, y with
  | .int k a, .int k' b => match op with
    | .shl | .shr => gshift op k a b
    | _ => if k = k' then gint op k a b else none
  | .string a, .string b => gstr op a b
  | _, _ => match op, e with
    | .eql, some q => (geq q x y).map .bool
    | .neq, some q => (geq q x y).map fun b => .bool !b
    | _, _ => none
def gun (op : UnOp) (x : Value) : Option Value :=
  match op, x with
  | .neg, .int k n => some (.int k (k.wrap (0 - n)))
  | .xor, .int k n => gint .xor k (if k.signed then -1 else k.max) n
  | .not, .bool b => some (.bool !b)
  | _, _ => none
/-- the two limits of a slice expression: from, to; 'cap': what 'to' may be at most -/
def gbounds (len cap : Nat) (lo hi : Option Value) : Option (Nat × Nat) :=
  match (match hi with
    | none => some len
    | some (.int _ h) => if 0 ≤ h ∧ h ≤ cap then some h.toNat else none
    | _ => none) with
  | none => none
  | some h => match lo with
    | none => some (0, h)
    | some (.int _ l) => if 0 ≤ l ∧ l ≤ h then some (l.toNat, h) else none
    | _ => none
def gslice (r : SlK) (H : GHeap) (x : Value) (lo hi mx : Option Value) : Option Value :=
  match r, x with
  | .str, .string s => match mx with
    | some _ => none
    | none => (gbounds s.size s.size lo hi).map fun (l, h) => .string (s.extract l h)
  | .sl _, .slice none 0 0 => match mx with
    | some _ => none
    | none => (gbounds 0 0 lo hi).map fun _ => .slice none 0 0
  | .sl size, .slice (some ⟨i, o, none⟩) n gc => match H.unit i with
    | some u =>
      if u = 0 ∨ usz u = size then
        match mx with
        | none => (gbounds n (if gc = 0 then n else gc - 1) lo hi).map fun (l, h) => .slice (some ⟨i, o + l * size, none⟩) (h - l) (if gc = 0 then 0 else gc - l)
        | some (.int _ m) => if 0 ≤ m ∧ m.toNat ≤ (if gc = 0 then n else gc - 1) ∧ hi.isSome then
            (gbounds n m.toNat lo hi).map fun (l, h) => .slice (some ⟨i, o + l * size, none⟩) (h - l) (m.toNat - l + 1)
          else none
        | _ => none
      else none
    | none => none
  | .arr n size, .pointer (some ⟨i, o, none⟩) => match H.unit i with
    | some 0 => match mx with
      | some _ => none
      | none => (gbounds n n lo hi).map fun (l, h) => .slice (some ⟨i, o + l * size, none⟩) (h - l) (n - l + 1)
    | _ => none
  | _, _ => none
def gcap : Value → Option Value
  | .slice none _ _ => some (.int .i64 0)
  | .slice _ _ (c + 1) => some (.int .i64 c)
  | _ => none
def glen : Bool → Value → Option Value
  | true, .string s => some (.int .i64 s.size)
  | false, .slice _ n _ => some (.int .i64 n)
  | _, _ => none
def gmin2 : Value → Value → Option Value
  | .int k x, .int _ y => some (.int k (if y < x then y else x))
  | _, _ => none
def gmax2 : Value → Value → Option Value
  | .int k x, .int _ y => some (.int k (if y > x then y else x))
  | _, _ => none
def gfold (f : Value → Value → Option Value) : List Value → Value → Option Value
  | [], x => some x
  | y :: r, x => (f x y).bind (gfold f r)
/-- m elements from the beginning of a slice, or a string's bytes -/
def gcells (size m : Nat) (H : GHeap) : Value → Option (List Value)
  | .slice none _ _ => some []
  | .slice (some ⟨i, o, none⟩) _ _ =>
    if m * size = 0 then some [] else
    match H.cs i with
    | none => none
    | some cs => if o + m * size ≤ cs.length then some ((cs.drop o).take (m * size)) else none
  | .string s => some ((s.data.toList.take m).map fun b => .int .u8 b.toNat)
  | _ => none
def gbytes : List Value → Option (List UInt8)
  | [] => some []
  | .int .u8 n :: r => (gbytes r).map fun l => UInt8.ofNat n.toNat :: l
  | _ :: _ => none
def grunes : List Value → Option (List Int)
  | [] => some []
  | .int .i32 n :: r => (grunes r).map fun l => n :: l
  | _ :: _ => none
def gconv (r : CvK) (H : GHeap) (x : Value) : Option (Value × Option GObj) :=
  match r, x with
  | .int k, .int _ n => some (.int k (k.wrap n), none)
  | .strOfInt, .int _ n => some (.string (Utf8.encode n), none)
  | .same, .string s => some (.string s, none)
  | .bytes u, .string s => some (.slice (some ⟨H.len, 0, none⟩) s.size 0, some (.cells (s.data.toList.map fun b => .int .u8 b.toNat) u true))
  | .runes u, .string s => some (.slice (some ⟨H.len, 0, none⟩) (Conv.runesFrom s s.size 0 #[]).size 0, some (.cells (Conv.runesFrom s s.size 0 #[]).toList u true))
  | .ofBytes, .slice a n c => (gcells 1 n H (.slice a n c)).bind fun l => (gbytes l).map fun b => (.string ⟨b.toArray⟩, none)
  | .ofRunes, .slice a n c => (gcells 1 n H (.slice a n c)).bind fun l => (grunes l).map fun b => (.string (b.foldl (fun s i => s ++ Utf8.encode i) .empty), none)
  | _, _ => none
def fillL (cells : List Value) : List (Nat × Nat × Value) → Option (List Value)
  | [] => some cells
  | (off, size, v) :: rest =>
    if v.cells.toList.length ≠ size || off + size > cells.length || !(v.cells.toList.all flatV) then none
    else fillL (cells.take off ++ v.cells.toList ++ cells.drop (off + size)) rest
/-- n elements of zero, as cells -/
def zeros (z : List Value) : Nat → List Value
  | 0 => []
  | n + 1 => z ++ zeros z n
def gmake (z : List Value) (bytes u : Nat) (H : GHeap) (l c : Value) : Option (Value × Option GObj) :=
  match l, c with
  | .int _ l, .int _ c =>
    if 0 ≤ l ∧ l ≤ c ∧ c * bytes ≤ 281474976710656 ∧ c ≤ 9223372036854775807 then
      some (.slice (some ⟨H.len, 0, none⟩) l.toNat (c.toNat + 1), some (.cells (zeros z c.toNat) u true))
    else none
  | _, _ => none

/-! ### operations that write -/
def gst (k : Option Nat) (H : GHeap) (p v : Value) : Option GHeap :=
  match p with
  | .pointer (some ⟨i, o, none⟩) => match H.mine i with
    | none => none
    | some (cs, u) => match k with
      | none => if o < cs.length ∧ flatV v = true then some (H.put i (.cells (cs.set o v) u true)) else none
      | some n => match v with
        | .agg vs => if vs.size = n ∧ o + n ≤ cs.length ∧ vs.all flatV = true then some (H.put i (.cells (cs.take o ++ vs.toList ++ cs.drop (o + n)) u true)) else none
        | _ => none
  | _ => none
def gcount : Value → Option Nat
  | .slice _ m _ => some m
  | .string s => some s.size
  | _ => none
def gapp (size bytes u0 : Nat) (H : GHeap) (s x : Value) : Option (Value × GHeap) :=
  (gcount x).bind fun m => (gcells size m H x).bind fun news =>
  match s with
  | .slice b n gc =>
    if m = 0 then some (s, H) else
    if (n + m) * bytes ≤ 140737488355328 ∧ n + m ≤ 9223372036854775807 ∧ size ≠ 0 ∧ news.length = m * size then
      match b with
      | none => if n = 0 then some (.slice (some ⟨H.len, 0, none⟩) m 0, H.add (some (.cells news u0 true))) else none
      | some ⟨i, o, none⟩ =>
        if gc = 0 then
          match H.mine i with
          | some (cs, u) => if u = u0 ∧ u ≠ 0 ∧ o + n * size ≤ cs.length then
              some (.slice (some ⟨H.len, 0, none⟩) (n + m) 0, (H.put i (.dead u)).add (some (.cells ((cs.drop o).take (n * size) ++ news) u0 true)))
            else none
          | none => none
        else if gc ≤ n + m then
          (gcells size n H s).bind fun olds => if olds.length = n * size then some (.slice (some ⟨H.len, 0, none⟩) (n + m) 0, H.add (some (.cells (olds ++ news) u0 true))) else none
        else match H.mine i with
          | some (cs, u) => if o + (n + m) * size ≤ cs.length then
              some (.slice b (n + m) gc, H.put i (.cells (cs.take (o + n * size) ++ news ++ cs.drop (o + (n + m) * size)) u true))
            else none
          | none => none
      | _ => none
    else none
  | _ => none
/-- an append that leaves all objects as they are -/
def gappM (size bytes u0 : Nat) (H : GHeap) (s x : Value) : Option (Value × Option GObj) :=
  (gcount x).bind fun m => (gcells size m H x).bind fun news =>
  match s with
  | .slice b n gc =>
    if m = 0 then some (s, none) else
    if (n + m) * bytes ≤ 140737488355328 ∧ n + m ≤ 9223372036854775807 ∧ size ≠ 0 ∧ news.length = m * size then
      match b with
      | none => if n = 0 then some (.slice (some ⟨H.len, 0, none⟩) m 0, some (.cells news u0 true)) else none
      | some _ => if gc ≠ 0 ∧ gc ≤ n + m then
          (gcells size n H s).bind fun olds => if olds.length = n * size then some (.slice (some ⟨H.len, 0, none⟩) (n + m) 0, some (.cells (olds ++ news) u0 true)) else none
        else none
    else none
  | _ => none
def gcopy (size : Nat) (H : GHeap) (d x : Value) : Option (Value × GHeap) :=
  (gcount x).bind fun m =>
  match d with
  | .slice b n _ => (gcells size (min m n) H x).bind fun news =>
    if (min m n) * size = 0 then some (.int .i64 (min m n : Nat), H) else
    match b with
    | some ⟨i, o, none⟩ => match H.mine i with
      | some (cs, u) => if o + news.length ≤ cs.length ∧ news.length = (min m n) * size then
          some (.int .i64 (min m n : Nat), H.put i (.cells (cs.take o ++ news ++ cs.drop (o + news.length)) u true))
        else none
      | none => none
    | _ => none
  | _ => none
def gnext (H : GHeap) : Value → Option (Value × GHeap)
  | .pointer (some ⟨i, 0, none⟩) => if H.lim ≤ i then
      match H.obj i with
      | some (.iter s pos) =>
        if pos < s.size then
          some (.tuple #[.bool true, .int .i64 pos, .int .i32 (Utf8.decode s pos).1], H.put i (.iter s (pos + (Utf8.decode s pos).2)))
        else some (.tuple #[.bool false], H)
      | _ => none
    else none
  | _ => none

/-! ### code, with all that is known ahead of the run -/
inductive GArg where
  | t (n : Nat)
  | c (v : Value)
  deriving Inhabited
inductive GOp where
  | move (x : GArg)
  | pick (c a b : GArg)
  | alloc (z : List Value)
  | box (x : GArg)
  | build (z : List Value) (ps : List (Nat × Nat × GArg))
  | buildSl (unit n : Nat) (z : List Value) (ps : List (Nat × Nat × GArg))
  | load (k : Option Nat) (x : GArg)
  | nilc (x : GArg)
  | bin (op : BinOp) (e : Option EqK) (x y : GArg)
  | un (op : UnOp) (x : GArg)
  | conv (r : CvK) (x : GArg)
  | fn (f : FuncId) (first cap : List GArg)
  | mk (z : List Value) (bytes u : Nat) (l c : GArg)
  | slice (r : SlK) (x : GArg) (lo hi mx : Option GArg)
  | fa (n : Nat) (x : GArg)
  | fld (off : Nat) (k : Option Nat) (x : GArg)
  | ia (len : Option Nat) (size : Nat) (x i : GArg)
  | ix (r : Option (Nat × Nat × Option Nat)) (x i : GArg)
  | rng (x : GArg)
  | ext (x : GArg) (k : Nat)
  | len (s : Bool) (x : GArg)
  | lenOf (n : Nat)
  | min (x : GArg) (r : List GArg)
  | max (x : GArg) (r : List GArg)
  | store (k : Option Nat) (p x : GArg)
  | next (x : GArg)
  | app (size bytes u : Nat) (s x : GArg)
  | copy (size : Nat) (d x : GArg)
  | appM (size bytes u : Nat) (s x : GArg)
  | cap (x : GArg)
  | call (f : GArg) (xs : List GArg)
  | bad
  deriving Inhabited
structure GOper where
  dst : Option Nat
  guard : Option (Nat × Bool)
  op : GOp
  deriving Inhabited
inductive GCode where
  | skip
  | line (l : List GOper)
  | any (hide : List GArg) (pre : List GOper) (post : List (Bool × GOper))
  | seq (a b : GCode)
  | cond (c : GArg) (a b : GCode)
  | block (id : Nat) (a : GCode)
  | loop (a : GCode)
  | exit (id : Nat)
  | ret
  | bad
  deriving Inhabited
inductive GRet where
  | tmp (t : Nat)
  | cell (t : Nat) (k : Option Nat)
  deriving Inhabited
structure GFun where
  ntmps : Nat
  rets : List GRet
  body : GCode
  deriving Inhabited

/-! ### from the program's code to this -/
section
variable (P : Program)
def placesK : List Field → Option (List (Nat × Nat))
  | [] => some []
  | f :: fs => match szK P f.type, placesK fs with
    | some n, some r => some ((f.offset, n) :: r)
    | _, _ => none
def placeK (t : TypeId) (i : Nat) : Option (Nat × Nat) :=
  match P.underlying t with
  | some (.struct fs) => (placesK P fs.toList).bind (·[i]?)
  | some (.array _ e) => (szK P e).map fun s => (i * s, s)
  | _ => none
def placeOk (t : TypeId) : Bool :=
  match P.underlying t with
  | some (.struct fs) => (placesK P fs.toList).isSome
  | some (.array _ e) => (szK P e).isSome
  | _ => false
def mkK (t : TypeId) : Option (List Value × Nat × Nat) :=
  match P.underlying t with
  | some (.slice e) => match zeroK P e, byK P e, szK P e with
    | some z, some b, some s => if z.cells.size = s ∧ s ≠ 0 then some (z.cells.toList, b, uK P e) else none
    | _, _, _ => none
  | _ => none
def cArg : Operand → Option GArg
  | .tmp t => some (.t t)
  | .const v => if litOk v then some (.c v) else none
  | .global g => if gOn P g then some (.c (.pointer (some ⟨g, 0, none⟩))) else none
  | .func f => some (.c (.func (.func f) #[] #[]))
def cArgs : List Operand → Option (List GArg)
  | [] => some []
  | x :: r => match cArg P x, cArgs r with
    | some a, some l => some (a :: l)
    | _, _ => none
def cOpt : Option Operand → Option (Option GArg)
  | none => some none
  | some x => (cArg P x).map some
def cParts (pl : Nat → Option (Nat × Nat)) : List (Nat × Operand) → Option (List (Nat × Nat × GArg))
  | [] => some []
  | (i, x) :: r => match pl i, cArg P x, cParts pl r with
    | some (o, n), some a, some l => some ((o, n, a) :: l)
    | _, _, _ => none
def cOp : Op → Option GOp
  | .move x | .assign x => (cArg P x).map .move
  | .pick c a b => match cArg P c, cArg P a, cArg P b with
    | some c, some a, some b => some (.pick c a b)
    | _, _, _ => none
  | .alloc e => (zeroK P e).map fun z => .alloc z.cells.toList
  | .box _ x => (cArg P x).map .box
  | .build t ps => match zeroK P t, cParts P (placeK P t) ps.toList with
    | some z, some l => if placeOk P t then some (.build z.cells.toList l) else none
    | _, _ => none
  | .buildSlice t n ps => match mkK P t with
    | some (z, _, u) => if n * z.length ≤ 16777216 then (cParts P (fun i => some (i * z.length, z.length)) ps.toList).map (.buildSl u n z) else none
    | none => none
  | .load t a => match ldK P t, cArg P a with
    | some k, some a => some (.load k a)
    | _, _ => none
  | .store t p x => match stK P t, cArg P p, cArg P x with
    | some k, some p, some x => some (.store k p x)
    | _, _, _ => none
  | .nilCheck x => (cArg P x).map .nilc
  | .binOp op t x y _ => match cArg P x, cArg P y with
    | some x, some y => some (.bin op (match op with | .eql | .neq => eqTopK P t | _ => none) x y)
    | _, _ => none
  | .unOp op _ x => (cArg P x).map (.un op)
  | .convert s d x => match cvK P s d, cArg P x with
    | some r, some x => some (.conv r x)
    | _, _ => none
  | .makeFunc (.func f) first cap => match cArgs P first.toList, cArgs P cap.toList with
    | some l, some m => some (.fn f l m)
    | _, _ => none
  | .makeSlice t l c => match mkK P t, cArg P l, cArg P c with
    | some (z, b, u), some l, some c => some (.mk z b u l c)
    | _, _, _ => none
  | .slice t x lo hi mx => match slcK P t, cArg P x, cOpt P lo, cOpt P hi, cOpt P mx with
    | some r, some x, some lo, some hi, some mx => some (.slice r x lo hi mx)
    | _, _, _, _, _ => none
  | .fieldAddr s x f => match faK P s f, cArg P x with
    | some n, some x => some (.fa n x)
    | _, _ => none
  | .field t x f => match fldK P t f, cArg P x with
    | some (o, k), some x => some (.fld o k x)
    | _, _ => none
  | .indexAddr t x i => match iaK P t, cArg P x, cArg P i with
    | some (len, n), some x, some i => some (.ia len n x i)
    | _, _, _ => none
  | .index t x i => match ixK P t, cArg P x, cArg P i with
    | some r, some x, some i => some (.ix r x i)
    | _, _, _ => none
  | .range t x => match P.underlying t with
    | some .string => (cArg P x).map .rng
    | _ => none
  | .next x true => (cArg P x).map .next
  | .extract x k => (cArg P x).map fun x => .ext x k
  | .call { callee := .builtin b, args, argTypes } => match b, cArgs P args.toList with
    | .cap, some [x] => match (argTypes[0]?).bind P.underlying with
      | some (.slice _) => some (.cap x)
      | _ => none
    | .len, some [x] => match (argTypes[0]?).bind P.underlying with
      | some .string => some (.len true x)
      | some (.slice _) => some (.len false x)
      | some (.array n _) => some (.lenOf n)
      | _ => none
    | .min, some (x :: r) => some (.min x r)
    | .max, some (x :: r) => some (.max x r)
    | .append, some [s, x] => match (argTypes[0]?).bind (elK P), (argTypes[1]?).bind P.underlying with
      | some e, some d => match szK P e, byK P e, zeroK P e, d with
        | some size, some bytes, some z, .slice _ => if z.cells.size = size then some (.app size bytes (uK P e) s x) else none
        | some 1, some bytes, some z, .string => if z.cells.size = 1 then some (.app 1 bytes (uK P e) s x) else none
        | _, _, _, _ => none
      | _, _ => none
    | .copy, some [d, x] => match ((argTypes[0]?).bind (elK P)).bind (szK P) with
      | some (n + 1) => some (.copy (n + 1) d x)
      | _ => none
    | _, _ => none
  | .call { callee := .value f, args, .. } => match cArg P f, cArgs P args.toList with
    | some f, some l => some (.call f l)
    | _, _ => none
  | _ => none
def cGuard (ops : Array Oper) : Option (Nat × Bool) → Option (Option (Nat × Bool))
  | none => some none
  | some (j, b) => ((ops[j]?).bind (·.dst)).map fun d => some (d, b)
def cOper (ops : Array Oper) (o : Oper) : GOper :=
  match cGuard ops o.guard with
  | some g => ⟨o.dst, g, (cOp P o.op).getD .bad⟩
  | none => ⟨o.dst, none, .bad⟩

/-! a region whose order is open: 'pre' in any order, 'post' in a row; some of 'post' may come ahead of some of 'pre' -/
def addNew (l : List Nat) (x : Nat) : List Nat := if l.contains x then l else x :: l
def befStep (acc : List (List Nat)) (o : Oper) : List (List Nat) :=
  acc ++ [((o.after.toList.filter (Region.binds .any)).flatMap fun e => e.on :: acc.getD e.on []).foldl addNew []]
/-- for each operation: those that it waits for, directly or not -/
def befores (ops : Array Oper) : List (List Nat) := ops.toList.foldl befStep []
def bef (b : List (List Nat)) (i j : Nat) : Bool := (b.getD j []).contains i
def writes : GOp → Bool
  | .store _ _ _ | .next _ | .app _ _ _ _ _ | .copy _ _ _ => true
  | _ => false
/-- it looks at its operands alone -/
def pureG : GOp → Bool
  | .move _ | .pick _ _ _ | .build _ _ | .nilc _ | .bin _ _ _ _ | .un _ _ | .fn _ _ _ | .slice _ _ _ _ _ | .fa _ _ | .fld _ _ _ | .ia _ _ _ _ | .ix _ _ _ | .ext _ _ | .len _ _ | .lenOf _ | .min _ _ | .max _ _ | .cap _ => true
  | .conv r _ => match r with
    | .int _ | .strOfInt | .same => true
    | _ => false
  | _ => false
def isCall : GOp → Bool
  | .call _ _ => true
  | _ => false
/-- the operand whose object a writing operation writes -/
def target : GOp → Option GArg
  | .store _ p _ => some p
  | .app _ _ _ x _ => some x
  | .next x => some x
  | .copy _ x _ => some x
  | _ => none
def writers (ops : Array Oper) (t : Nat) : List Nat := (List.range ops.size).filter fun j => (ops[j]?).bind (·.dst) == some t
/-- where an operand of operation i comes from, as the region finds it (a guess: the run looks whether it holds) -/
def trace (b : List (List Nat)) (ops : Array Oper) (gs : List GOper) : Nat → Nat → GArg → Option GArg
  | 0, _, _ => none
  | n + 1, i, x => match x with
    | .c _ => some x
    | .t t => match writers ops t with
      | [] => some x
      | [j] => if bef b i j then some x else
        match (gs[j]?).map (·.op) with
        | some (GOp.move y) => trace b ops gs n j y
        | _ => none
      | _ => none
/-- what comes behind: the writes (and, if 'c', the calls), and whatever comes behind one of these -/
def postOf (b : List (List Nat)) (gs : List GOper) (c : Bool) : List Nat :=
  let n := gs.length
  let w := (List.range n).filter fun j => match (gs[j]?).map (·.op) with
    | some op => writes op || (c && isCall op)
    | none => false
  (List.range n).filter fun j => w.contains j || w.any fun i => bef b i j
/-- is an operation of 'post' early: may it come ahead of something in 'pre' that looks at objects? -/
def early (b : List (List Nat)) (op : Nat → GOp) (pre : List Nat) (j : Nat) : Bool := !(pureG (op j)) && !(pre.all fun i => bef b i j || pureG (op i))
def nodupB : List Nat → Bool
  | [] => true
  | x :: r => !(r.contains x) && nodupB r
/-- the plan holds good -/
def planOk (ops : Array Oper) (b : List (List Nat)) (gs : List GOper) (pre post : List Nat) : Bool :=
  nodupB (pre ++ post) && ((pre ++ post).all fun j => decide (j < ops.size)) && ((List.range ops.size).all fun j => (pre ++ post).contains j) &&
  -- each operation behind those that it waits for
  ((pre ++ post).zipIdx.all fun (j, p) => (b.getD j []).all fun i => ((pre ++ post).take p).contains i) &&
  -- what comes behind comes in a row
  (post.zipIdx.all fun (j, p) => (post.take p).all fun i => bef b i j) &&
  (pre.all fun j => !writes (opOf gs j)) &&
  (post.all fun j => !(early b (opOf gs) pre j) || writes (opOf gs j)) &&
  -- one writer a slot, and each reader ahead of it or behind it
  ((List.range ops.size).all fun j => match (ops[j]?).bind (·.dst) with
    | none => true
    | some t => writers ops t == [j] && ((List.range ops.size).all fun i => i == j || bef b i j || bef b j i || !(reads (gs.getD i default)).contains t))
where
  opOf (gs : List GOper) (j : Nat) : GOp := (gs.getD j default).op
  args : GOp → List GArg
    | .move x | .box x | .load _ x | .nilc x | .un _ x | .conv _ x | .fa _ x | .fld _ _ x | .rng x | .ext x _ | .len _ x | .next x | .cap x => [x]
    | .pick c a b => [c, a, b]
    | .alloc _ | .lenOf _ | .bad => []
    | .build _ ps | .buildSl _ _ _ ps => ps.map (·.2.2)
    | .bin _ _ x y | .mk _ _ _ x y | .ia _ _ x y | .ix _ x y | .store _ x y | .app _ _ _ x y | .appM _ _ _ x y | .copy _ x y => [x, y]
    | .fn _ a b => a ++ b
    | .slice _ x lo hi mx => [x] ++ lo.toList ++ hi.toList ++ mx.toList
    | .min x r | .max x r | .call x r => x :: r
  reads (g : GOper) : List Nat := (g.guard.toList.map (·.1)) ++ (args g.op).filterMap fun | .t n => some n | .c _ => none
def planOf (ops : Array Oper) (b : List (List Nat)) (gs : List GOper) (c : Bool) : Option GCode :=
  let post := postOf b gs c
  let pre := (List.range gs.length).filter fun j => !post.contains j
  let e (j : Nat) : Bool := early b (planOk.opOf gs) pre j
  if planOk ops b gs pre post then
    some (.any ((post.filter e).filterMap fun j => (target (planOk.opOf gs j)).bind (trace b ops gs gs.length j)) (pre.map (gs.getD · default)) (post.map fun j => (e j, gs.getD j default)))
  else none
/-- an append that does not come behind all that looks at objects, onto what cannot be told ahead: it has to make a new row -/
def toM (ops : Array Oper) (b : List (List Nat)) (gs : List GOper) : List GOper :=
  gs.zipIdx.map fun (g, j) => match g.op with
    | .app size bytes u s x =>
      if (trace b ops gs gs.length j s).isNone && ((List.range gs.length).any fun i => i != j && !bef b i j && !bef b j i && !pureG (planOk.opOf gs i)) then ⟨g.dst, g.guard, .appM size bytes u s x⟩ else g
    | _ => g
def cAny (ops : Array Oper) : GCode :=
  let b := befores ops
  let gs := toM ops b (ops.toList.map (cOper P ops))
  ((planOf ops b gs true).orElse fun _ => planOf ops b gs false).getD .bad
def cCode : Code → GCode
  | .skip | .label _ => .skip
  | .region _ ops draw => if draw then cAny P ops else .line (ops.toList.map (cOper P ops))
  | .seq a b => .seq (cCode a) (cCode b)
  | .cond c a b => match cArg P c with
    | some c => .cond c (cCode a) (cCode b)
    | none => .bad
  | .block id a => .block id (cCode a)
  | .loop a => .loop (cCode a)
  | .exit id => .exit id
  | .ret => .ret
  | _ => .bad
def cRets : List ResultVar → Option (List GRet)
  | [] => some []
  | .tmp t :: r => (cRets r).map (.tmp t :: ·)
  | .cell a t :: r => match ldK P t, cRets r with
    | some k, some l => some (.cell a k :: l)
    | _, _ => none
def dstsOk (n : Nat) : Code → Bool
  | .region _ ops _ => ops.all fun o => match o.dst with
    | some d => decide (d < n)
    | none => true
  | .seq a b | .cond _ a b => dstsOk n a && dstsOk n b
  | .block _ a | .loop a => dstsOk n a
  | _ => true
def cFun (fn : Func) : Option GFun :=
  if fn.name == "runtime.NumGoroutine" then none else
  match fn.body with
  | none => none
  | some c => if dstsOk fn.ntmps c then (cRets P fn.results.toList).map fun r => ⟨fn.ntmps, r, cCode P c⟩ else none
end

/-! ### its run -/
section
def GArg.ev (fr : Fr) : GArg → Option Value
  | .t n => fr.get n
  | .c v => some v
def evs (fr : Fr) : List GArg → Option (List Value)
  | [] => some []
  | x :: r => match x.ev fr, evs fr r with
    | some v, some l => some (v :: l)
    | _, _ => none
def evOpt (fr : Fr) : Option GArg → Option (Option Value)
  | none => some none
  | some x => (x.ev fr).map some
def evParts (fr : Fr) : List (Nat × Nat × GArg) → Option (List (Nat × Nat × Value))
  | [] => some []
  | (o, n, x) :: r => match x.ev fr, evParts fr r with
    | some v, some l => some ((o, n, v) :: l)
    | _, _ => none
/-- an operation that leaves all objects as they are: its value, and new objects -/
def gopM (fr : Fr) (H : GHeap) : GOp → Option (Value × Option GObj)
  | .move x => (x.ev fr).map fun v => (v, none)
  | .pick c a b => match c.ev fr with
    | some (.bool t) => (if t then a.ev fr else b.ev fr).map fun v => (v, none)
    | _ => none
  | .alloc z => some (.pointer (some ⟨H.len, 0, none⟩), some (.cells z 0 true))
  | .box x => (x.ev fr).bind fun v => if v.cells.all flatV then some (.pointer (some ⟨H.len, 0, none⟩), some (.cells v.cells.toList 0 true)) else none
  | .build z ps => (evParts fr ps).bind fun l => (fillL z l).map fun cs => (.agg cs.toArray, none)
  | .buildSl u n z ps => (evParts fr ps).bind fun l => (fillL (zeros z n) l).map fun cs => (.slice (some ⟨H.len, 0, none⟩) n (n + 1), some (.cells cs u true))
  | .load k a => (a.ev fr).bind fun v => (gld k H v).map fun r => (r, none)
  | .nilc x => (x.ev fr).bind fun v => match v with
    | .pointer (some _) => some (v, none)
    | .func (.func _) _ _ => some (v, none)
    | _ => none
  | .bin op e x y => (x.ev fr).bind fun a => (y.ev fr).bind fun b => (gbin op e a b).map fun r => (r, none)
  | .un op x => (x.ev fr).bind fun a => (gun op a).map fun r => (r, none)
  | .conv r x => (x.ev fr).bind fun v => gconv r H v
  | .fn f first cap => (evs fr first).bind fun l => (evs fr cap).map fun m => (.func (.func f) l.toArray m.toArray, none)
  | .mk z b u l c => (l.ev fr).bind fun x => (c.ev fr).bind fun y => gmake z b u H x y
  | .slice r x lo hi mx => (x.ev fr).bind fun v => (evOpt fr lo).bind fun l => (evOpt fr hi).bind fun h => (evOpt fr mx).bind fun m => (gslice r H v l h m).map fun r => (r, none)
  | .fa n x => (x.ev fr).bind fun v => (gadd n v).map fun r => (r, none)
  | .fld o k x => (x.ev fr).bind fun v => (gpart k o v).map fun r => (r, none)
  | .ia len n x i => (x.ev fr).bind fun v => (i.ev fr).bind fun j => (gia len n v j).map fun r => (r, none)
  | .ix r x i => (x.ev fr).bind fun v => (i.ev fr).bind fun j => (gix r v j).map fun r => (r, none)
  | .rng x => (x.ev fr).bind fun v => match v with
    | .string s => some (.pointer (some ⟨H.len, 0, none⟩), some (.iter s 0))
    | _ => none
  | .ext x k => (x.ev fr).bind fun v => match v with
    | .tuple vs => (vs[k]?).map fun r => (r, none)
    | _ => none
  | .len s x => (x.ev fr).bind fun v => (glen s v).map fun r => (r, none)
  | .cap x => (x.ev fr).bind fun v => (gcap v).map fun r => (r, none)
  | .appM size bytes u s x => (s.ev fr).bind fun s => (x.ev fr).bind fun x => gappM size bytes u H s x
  | .lenOf n => some (.int .i64 n, none)
  | .min x r => (x.ev fr).bind fun v => (evs fr r).bind fun l => (gfold gmin2 l v).map fun v => (v, none)
  | .max x r => (x.ev fr).bind fun v => (evs fr r).bind fun l => (gfold gmax2 l v).map fun v => (v, none)
  | _ => none
def gopW (fr : Fr) (H : GHeap) : GOp → Option (Value × GHeap)
  | .store k p x => (p.ev fr).bind fun p => (x.ev fr).bind fun v => (gst k H p v).map fun H' => (undef, H')
  | .next x => (x.ev fr).bind (gnext H)
  | .app size bytes u s x => (s.ev fr).bind fun s => (x.ev fr).bind fun x => gapp size bytes u H s x
  | .copy size d x => (d.ev fr).bind fun d => (x.ev fr).bind fun x => gcopy size H d x
  | _ => none
def gput (fr : Fr) (dst : Option Nat) (v : Value) : Fr :=
  match dst with
  | none => fr
  | some d => fr.set d v
def gwants (fr : Fr) : Option (Nat × Bool) → Option Bool
  | none => some true
  | some (d, b) => match fr.get d with
    | some (.bool c) => some (c == b)
    | some _ => some false
    | none => none
abbrev GCall := FuncId → List Value → GHeap → Option (Value × GHeap)
/-- the function that a call calls, and its arguments -/
def gtarget (fr : Fr) (f : GArg) (xs : List GArg) : Option (FuncId × List Value) :=
  match f.ev fr with
  | some (.func (.func g) first cap) => (evs fr xs).map fun l => (g, first.toList ++ l ++ cap.toList)
  | _ => none
def gdo (call : GCall) (fr : Fr) (H : GHeap) (op : GOp) : Option (Value × GHeap) :=
  match op with
  | .call f xs => (gtarget fr f xs).bind fun (g, args) => call g args H
  | op => if writes op then gopW fr H op else (gopM fr H op).map fun (v, new) => (v, H.add new)
/-- where the order is open: nothing that was there is written -/
def gdoM (call : GCall) (fr : Fr) (H : GHeap) (op : GOp) : Option (Value × GHeap) :=
  match op with
  | .call f xs => (gtarget fr f xs).bind fun (g, args) => (call g args ⟨H.t, H.len, H.len⟩).map fun (v, H') => (v, ⟨H'.t, H'.len, H.lim⟩)
  | op => (gopM fr H op).map fun (v, new) => (v, H.add new)
def gsteps (run : Fr → GHeap → GOp → Option (Value × GHeap)) : List GOper → Fr → GHeap → Option (Fr × GHeap)
  | [], fr, H => some (fr, H)
  | o :: r, fr, H => match gwants fr o.guard with
    | some true => match run fr H o.op with
      | some (v, H') => gsteps run r (gput fr o.dst v) H'
      | none => none
    | some false => gsteps run r (gput fr o.dst undef) H
    | none => none
def idOf : Value → List Nat
  | .pointer (some a) | .slice (some a) _ _ => [a.block]
  | _ => []
def aims (fr : Fr) (hid : List Nat) (op : GOp) : Bool :=
  match (target op).bind (GArg.ev fr) with
  | some v => (idOf v).all hid.contains
  | none => true
def gpost (call : GCall) (hid : List Nat) : List (Bool × GOper) → Fr → GHeap → Option (Fr × GHeap)
  | [], fr, H => some (fr, H)
  | (e, o) :: r, fr, H => match gwants fr o.guard with
    | some true =>
      if e && !aims fr hid o.op then none else
      match gdo call fr H o.op with
      | some (v, H') => gpost call hid r (gput fr o.dst v) H'
      | none => none
    | some false => gpost call hid r (gput fr o.dst undef) H
    | none => none
def ghide (H : GHeap) : List Nat → GHeap
  | [] => H
  | i :: r => match H.unit i with
    | some u => ghide (H.put i (.dead u)) r
    | none => ghide H r
def gback (H : GHeap) (H' : GHeap) : List Nat → GHeap
  | [] => H'
  | i :: r => match H.obj i with
    | some o => gback H (H'.put i o) r
    | none => gback H H' r
def hidden (fr : Fr) (l : List GArg) : List Nat := l.flatMap fun x => match x.ev fr with
  | some v => idOf v
  | none => []
def gany (call : GCall) (hide : List GArg) (pre : List GOper) (post : List (Bool × GOper)) (fr : Fr) (H : GHeap) : Option (Fr × GHeap) :=
  match gsteps (gdoM call) pre fr (ghide H ((hidden fr hide).filter (· < H.len))) with
  | some (fr', H') => gpost call ((hidden fr hide).filter (· < H.len)) post fr' (gback H H' ((hidden fr hide).filter (· < H.len)))
  | none => none
inductive GExit where
  | normal
  | exit (id : Nat)
  | ret
  deriving DecidableEq, Inhabited
abbrev GRes := Option (GExit × Fr × GHeap)
def gloop (body : Fr → GHeap → GRes) : Nat → Fr → GHeap → GRes
  | 0, _, _ => none
  | n + 1, fr, H => match body fr H with
    | some (.normal, fr', H') => gloop body n fr' H'
    | r => r
def gcode (call : GCall) (m : Nat) : GCode → Fr → GHeap → GRes
  | .skip, fr, H => some (.normal, fr, H)
  | .line l, fr, H => match gsteps (gdo call) l fr H with
    | some (fr', H') => some (.normal, fr', H')
    | none => none
  | .any hide pre post, fr, H => match gany call hide pre post fr H with
    | some (fr', H') => some (.normal, fr', H')
    | none => none
  | .seq a b, fr, H => match gcode call m a fr H with
    | some (.normal, fr', H') => gcode call m b fr' H'
    | r => r
  | .cond c a b, fr, H => match c.ev fr with
    | some (.bool true) => gcode call m a fr H
    | some (.bool false) => gcode call m b fr H
    | _ => none
  | .block id a, fr, H => match gcode call m a fr H with
    | some (.exit id', fr', H') => if id' = id then some (.normal, fr', H') else some (.exit id', fr', H')
    | r => r
  | .loop a, fr, H => gloop (gcode call m a) m fr H
  | .exit id, fr, H => some (.exit id, fr, H)
  | .ret, fr, H => some (.ret, fr, H)
  | .bad, _, _ => none
def gresults (fr : Fr) (H : GHeap) : List GRet → Option (List Value)
  | [] => some []
  | .tmp t :: r => match fr.get t, gresults fr H r with
    | some v, some l => some (v :: l)
    | _, _ => none
  | .cell t k :: r => match (fr.get t).bind (gld k H), gresults fr H r with
    | some v, some l => some (v :: l)
    | _, _ => none
def gone : List Value → Value
  | [v] => v
  | vs => .tuple vs.toArray
def frameOf : Nat → List Value → Fr → Fr
  | _, [], fr => fr
  | i, v :: r, fr => frameOf (i + 1) r (fr.set i v)
def gbody (call : GCall) (m : Nat) (fn : GFun) (args : List Value) (H : GHeap) : Option (Value × GHeap) :=
  match gcode call m fn.body (frameOf 0 args .nil) H with
  | some (.normal, fr, H') | some (.ret, fr, H') => (gresults fr H' fn.rets).map fun l => (gone l, H')
  | _ => none
/-- what a function is to a call: its code; its code, run over the package-level variables alone (it takes and gives no memory); another that stands in for it -/
inductive GEnt where
  | fn (g : GFun)
  | pure (g : GFun)
  | twin (f : FuncId)
def litVal : Value → Bool
  | .tuple cs => cs.all litOk
  | v => litOk v
/-- the package-level variables alone -/
def gRoot (_ : GHeap) : GHeap := ⟨.nil, 0, 0⟩
def gcall (G : FuncId → Option GEnt) (m : Nat) : Nat → GCall
  | 0, _, _, _ => none
  | d + 1, f, args, H => match G f with
    | some (.fn g) => gbody (gcall G m d) m g args H
    | some (.pure g) => if args.all litOk then
        match gbody (gcall G m d) m g args (gRoot H) with
        | some (v, _) => if litVal v then some (v, H) else none
        | none => none
      else none
    | some (.twin g) => gcall G m d g args H
    | none => none
end
end Go.Gh
