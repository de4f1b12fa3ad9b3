/-
  Words for memory over this seat's program: a slice that reads as a list of cells, blocks known whole, appends, conversions to strings.
-/
import Derived.Test.YtleolanjlhbjlaaRows
import Derived.WalkKit
import Derived.WalkSpells
import Derived.WalkLawsBesides
import Derived.Outline
import Derived.Lib.Hide
import Derived.Deep.AppendLies
import Derived.Deep.Draws
import Derived.Deep.QuietTactic
import Derived.BigQuiet
import Derived.Deep.RegionHeld3
import Derived.Deep.DeepFit
import Derived.Deep.DeepCutAuto
import Derived.StillTailTactics
import Derived.Maps.AppendAt
import Derived.Laws.BytesArg
import Derived.Laws.IdiomStrings
import Derived.RegionTactic
namespace Go.Proofs.Ytleolanjlhbjlaa
open Go.RowKit


/- MINE 1: the same with the address written out -/
theorem add_none (b off j : Nat) : (⟨b, off, none⟩ : Addr).add j = ⟨b, off + j, none⟩ := by unfold Addr.add; split <;> simp_all

/-- The slice '.slice A n c' holds the cells xs (size cells an element) and lies below block B. -/
def Rd (w : World) (B size : Nat) (A : Option Addr) (n : Nat) (xs : List Value) : Prop :=
  xs.length = n * size ∧ (0 < n → ∃ b off, A = some ⟨b, off, none⟩ ∧ b < B ∧ ∀ j u, xs[j]? = some u → w.cell? ⟨b, off + j, none⟩ = some u)

/-- All blocks of w lie in w' as they were. -/
def Le (w w' : World) : Prop := Below w.heap.size w w'

section
variable {w w' w'' : World} {B B' size n : Nat} {A : Option Addr} {xs : List Value}
theorem Le.refl (w : World) : Le w w := Below.refl _ _
theorem Le.trans (h : Le w w') (k : Le w' w'') : Le w w'' := Below.trans h (k.mono h.size)
theorem Le.drew (h : Le w w') : Le w w'.drew := Below.drew h
theorem Le.drewN (h : Le w w') (k : Nat) : Le w (w'.drewN k) := ⟨h.os, h.tape, h.output, h.size, h.block⟩
theorem Le.alloc (h : Le w w') (o : Obj) : Le w (w'.alloc o) := Below.alloc h h.size o
theorem Le.setCell (h : Le w w') {p : Addr} (hp : w.heap.size ≤ p.block) (u : Value) : Le w (w'.setCell p u) := Below.setCell h hp u
theorem Le.grown (h : Le w w') {row : Option Nat} (hg : w'.grownBy w'' row) (hr : ∀ k, row = some k → w.heap.size ≤ k) : Le w w'' := Below.grown h hg h.size hr
theorem Le.cell (h : Le w w') {b o : Nat} (hb : b < w.heap.size) : w'.cell? ⟨b, o, none⟩ = w.cell? ⟨b, o, none⟩ := Below.cell h hb
theorem Le.frozen (h : Le w w') {b o : Nat} (hb : b < w.heap.size) : w'.frozen? ⟨b, o, none⟩ = w.frozen? ⟨b, o, none⟩ := Below.frozen (p := ⟨b, o, none⟩) h hb
theorem Le.le (h : Le w w') : w.heap.size ≤ w'.heap.size := h.size

theorem Rd.none_ : Rd w B size A 0 [] := ⟨by simp, fun h => absurd h (by omega)⟩
theorem Rd.len (h : Rd w B 1 A n xs) : xs.length = n := by simpa using h.1
theorem Rd.at_ {k : Nat} (h : Rd w B 1 A n xs) (hk : k < n) : ∃ b off u, A = some ⟨b, off, none⟩ ∧ b < B ∧ xs[k]? = some u ∧ w.cell? ⟨b, off + k, none⟩ = some u := by
  obtain ⟨b, off, e, hb, hc⟩ := h.2 (by omega)
  have hl : k < xs.length := by have := h.1; omega
  exact ⟨b, off, xs[k], e, hb, List.getElem?_eq_getElem hl, hc k _ (List.getElem?_eq_getElem hl)⟩
theorem Rd.keep (h : Rd w B size A n xs) (hk : ∀ b o, b < B → w'.cell? ⟨b, o, none⟩ = w.cell? ⟨b, o, none⟩) : Rd w' B size A n xs :=
  ⟨h.1, fun hn => by
    obtain ⟨b, off, e, hb, hc⟩ := h.2 hn
    exact ⟨b, off, e, hb, fun j u hu => (hk _ _ hb).trans (hc j u hu)⟩⟩
theorem Rd.more (h : Rd w B size A n xs) (hB : B ≤ B') : Rd w B' size A n xs :=
  ⟨h.1, fun hn => by
    obtain ⟨b, off, e, hb, hc⟩ := h.2 hn
    exact ⟨b, off, e, by omega, hc⟩⟩
theorem Rd.below (h : Rd w B size A n xs) (hb : Below B w w') : Rd w' B size A n xs := h.keep fun _ _ hp => hb.cell hp
theorem Rd.le (h : Rd w B size A n xs) (hl : Le w w') (hB : B ≤ w.heap.size) : Rd w' B size A n xs := h.below (hl.mono hB)
/-- read in w, below w's own size: read in every later world, below its size. -/
theorem Rd.up (h : Rd w w.heap.size size A n xs) (hl : Le w w') : Rd w' w'.heap.size size A n xs := (h.below hl).more hl.size
theorem Rd.drew (h : Rd w B size A n xs) : Rd w.drew B size A n xs := h
theorem Rd.drewN (h : Rd w B size A n xs) (k : Nat) : Rd (w.drewN k) B size A n xs := h
theorem Rd.alloc (h : Rd w B size A n xs) (hB : B ≤ w.heap.size) (o : Obj) : Rd (w.alloc o) B size A n xs := h.keep fun b o' hp => World.cell?_alloc_lt w o ⟨b, o', none⟩ (by show b < _; omega)
theorem Rd.setCell (h : Rd w B size A n xs) {p : Addr} (hB : B ≤ p.block) (u : Value) : Rd (w.setCell p u) B size A n xs :=
  h.keep fun b o hq => World.cell?_setCell_other w p ⟨b, o, none⟩ u (fun e => by subst e; exact absurd hq (by show ¬ b < B; exact Nat.not_lt.2 hB))
theorem Rd.grown (h : Rd w B size A n xs) {row : Option Nat} (hg : w.grownBy w' row) (hB : B ≤ w.heap.size) (hr : ∀ g, row = some g → B ≤ g) : Rd w' B size A n xs :=
  h.keep fun b o hp => World.cell?_of_block (a := ⟨b, o, none⟩) (hg.block b (by omega) (fun e => by have := hr _ e.symm; omega))
theorem Rd.of_own {base : Nat} {e : TypeId} {c : Nat} (h : w.ownsRow base e size (.slice A n c) n xs) : Rd w w.heap.size size A n xs := by
  refine ⟨h.1, fun hn => ?_⟩
  obtain ⟨g, cap, hv, _, hlt⟩ := h.form hn
  have hA : A = some ⟨g, 0, none⟩ := by injection hv
  subst hA
  exact ⟨g, 0, rfl, hlt, fun j u hu => by have := h.cells (g := g) rfl j u hu; rwa [add_none] at this⟩
/-- a part of a slice: the elements from k on, m of them. -/
theorem Rd.part (h : Rd w B size A n xs) (k m : Nat) (hkm : k + m ≤ n) : Rd w B size (A.map (·.add (k * size))) m ((xs.drop (k * size)).take (m * size)) := by
  have h1 : (k + m) * size ≤ n * size := Nat.mul_le_mul_right _ hkm
  have h2 : (k + m) * size = k * size + m * size := Nat.add_mul ..
  refine ⟨by rw [List.length_take, List.length_drop, h.1]; omega, fun hm => ?_⟩
  obtain ⟨b, off, rfl, hb, hc⟩ := h.2 (by omega)
  refine ⟨b, off + k * size, by simp [add_none], hb, fun j u hu => ?_⟩
  rw [Nat.add_assoc]
  refine hc _ u ?_
  rw [List.getElem?_take] at hu
  split at hu
  · rw [← hu, List.getElem?_drop]
  · cases hu
theorem Rd.same (h : Rd w B size A n xs) {A' : Option Addr} (hA : 0 < n → A' = A) : Rd w B size A' n xs :=
  ⟨h.1, fun hn => by rw [hA hn]; exact h.2 hn⟩
theorem Rd.pre (h : Rd w B 1 A n xs) {m : Nat} (hm : m ≤ n) : Rd w B 1 A m (xs.take m) := by
  have h1 := h.part 0 m (by omega)
  simp only [List.drop_zero, Nat.mul_one] at h1
  refine h1.same fun hm => ?_
  cases A <;> simp [Addr.add]
theorem own_cap {base : Nat} {e : TypeId} {c : Nat} (h : w.ownsRow base e size (.slice A n c) n xs) : n ≤ c := by
  rcases h.2 with ⟨h1, rfl⟩ | ⟨g, cap, cur, h1, _, _, h2, _⟩
  · exact Nat.zero_le _
  · injection h1 with _ _ h3; omega
theorem own_shape {base : Nat} {e : TypeId} {v : Value} (h : w.ownsRow base e size v n xs) : ∃ A c, v = .slice A n c := by
  rcases h.2 with ⟨rfl, rfl⟩ | ⟨g, cap, cur, rfl, _⟩
  · exact ⟨_, _, rfl⟩
  · exact ⟨_, _, rfl⟩
end

/- MINE 1b: an operation that runs: without a guard, or its guard says yes -/
theorem wpList_wanted {P : Program} {ops : Array Oper} {Q : Exit → Act → World → Prop} {a : Act} {w : World} {rest : List Oper} {o : Oper} (hg : Region.wanted o (yielded ops a.tmps) = true)
    (h : ∀ K : Act → World → Prop, (∀ a w, wpList P ops Q rest a w → K a w) → o.wp P a w K Q) : wpList P ops Q (o :: rest) a w :=
  wpList_step fun K hK => by rw [if_pos hg]; exact h K hK

/- MINE 2: the slice expression, the result's address left open -/
theorem run_slice_rd {P : Program} (w : World) (t e : TypeId) (i : TypeInfo) (size : Nat) (ht : P.underlying t = some (.slice e)) (hi : P.info? e = some i) (hs : i.size = size)
    (B : Nat) (A : Option Addr) (n c : Nat) (xs : List Value) (hr : Rd w B size A n xs) (hnc : n ≤ c) (kl kh : IntKind) (lo hi' : Option Value) (l h : Nat)
    (hlo : (lo = none ∧ l = 0) ∨ lo = some (.int kl (l : Int))) (hhi : (hi' = none ∧ h = n) ∨ hi' = some (.int kh (h : Int))) (hlh : l ≤ h) (hhn : h ≤ n) :
    ∃ A', (Instr.sliceAt t (.slice A n c) lo hi' none).run P w = .ok (.slice A' (h - l) (c - l)) w ∧ Rd w B size A' (h - l) ((xs.drop (l * size)).take ((h - l) * size)) ∧ (l = 0 → A = A') := by
  refine ⟨if c = l then A else A.map (·.add (l * size)), ?_, ?_, ?_⟩
  · rcases hlo with ⟨rfl, rfl⟩ | rfl <;> rcases hhi with ⟨rfl, rfl⟩ | rfl <;>
      simp [Instr.sliceAt, Instr.slice, Instr.sliceBounds, Instr.sliceBound, asIntOf, run_underlying ht, sizeOf, typeInfo, hi, hs] <;> (repeat rw [if_pos (by omega)]) <;> (try simp) <;> (intro hh; exfalso; omega)
  · exact (hr.part l (h - l) (by omega)).same fun hp => by rw [if_neg (by omega)]
  · rintro rfl
    split
    · rfl
    · cases A <;> simp [Addr.add]

theorem wp_slice_rd {P : Program} {w : World} {o : Oper} {a : Act} {K : Act → World → Prop} {Q : Exit → Act → World → Prop} (t : TypeId) (x : Operand) (lo hi' : Option Operand)
    (ho : o.op = .slice t x lo hi' none) (e : TypeId) (i : TypeInfo) (size : Nat) (ht : P.underlying t = some (.slice e)) (hi : P.info? e = some i) (hs : i.size = size)
    (B : Nat) (A : Option Addr) (n c : Nat) (xs : List Value) (hx : a.eval x = .slice A n c) (hr : Rd w B size A n xs) (hnc : n ≤ c) (kl kh : IntKind) (l h : Nat)
    (hlo : (lo.map a.eval = none ∧ l = 0) ∨ lo.map a.eval = some (.int kl (l : Int))) (hhi : (hi'.map a.eval = none ∧ h = n) ∨ hi'.map a.eval = some (.int kh (h : Int))) (hlh : l ≤ h) (hhn : h ≤ n)
    (hK : ∀ A', Rd w B size A' (h - l) ((xs.drop (l * size)).take ((h - l) * size)) → (l = 0 → A = A') → K (a.put o.dst (.slice A' (h - l) (c - l))) w) : o.wp P a w K Q := by
  obtain ⟨A', hrun, h1, h2⟩ := run_slice_rd (P := P) w t e i size ht hi hs B A n c xs hr hnc kl kh _ _ l h hlo hhi hlh hhn
  unfold Oper.wp execOp
  simp only [ho, hx, Option.map_none, hrun, Sem.run_bind, Sem.run_pure, Result.andThen_ok]
  exact hK A' h1 h2

theorem wpList_slice_rd {P : Program} {w : World} {ops : Array Oper} {rest : List Oper} {o : Oper} {a : Act} {Q : Exit → Act → World → Prop} (hgd : Region.wanted o (yielded ops a.tmps) = true) (t : TypeId) (x : Operand) (lo hi' : Option Operand)
    (ho : o.op = .slice t x lo hi' none) (e : TypeId) (i : TypeInfo) (size : Nat) (ht : P.underlying t = some (.slice e)) (hi : P.info? e = some i) (hs : i.size = size)
    (B : Nat) (A : Option Addr) (n c : Nat) (xs : List Value) (hx : a.eval x = .slice A n c) (hr : Rd w B size A n xs) (hnc : n ≤ c) (kl kh : IntKind) (l h : Nat)
    (hlo : (lo.map a.eval = none ∧ l = 0) ∨ lo.map a.eval = some (.int kl (l : Int))) (hhi : (hi'.map a.eval = none ∧ h = n) ∨ hi'.map a.eval = some (.int kh (h : Int))) (hlh : l ≤ h) (hhn : h ≤ n)
    (hK : ∀ A', Rd w B size A' (h - l) ((xs.drop (l * size)).take ((h - l) * size)) → (l = 0 → A = A') → wpList P ops Q rest (a.put o.dst (.slice A' (h - l) (c - l))) w) : wpList P ops Q (o :: rest) a w :=
  wpList_wanted hgd fun _ hK' => wp_slice_rd t x lo hi' ho e i size ht hi hs B A n c xs hx hr hnc kl kh l h hlo hhi hlh hhn fun A' h1 h2 => hK' _ _ (hK A' h1 h2)

/- MINE 3: a conversion of bytes to a string -/
abbrev U8s (l : List UInt8) : List Value := l.map fun x => Value.int .u8 (x.toNat : Int)
theorem U8s_one (l : List UInt8) : ∀ u ∈ U8s l, u.oneCell' = true := by
  intro u hu
  obtain ⟨x, _, rfl⟩ := List.mem_map.1 hu
  rfl
theorem run_bytes_string {P : Program} (w : World) (src dst e : TypeId) (hs : P.underlying src = some (.slice e)) (he : P.underlying e = some (.int .u8)) (hd : P.underlying dst = some .string)
    (B : Nat) (A : Option Addr) (n c : Nat) (xs : List UInt8) (hr : Rd w B 1 A n (U8s xs)) : (convert src dst (.slice A n c)).run P w = .ok (.string ⟨xs.toArray⟩) w := by
  have hl : xs.length = n := by have := hr.1; simpa using this
  rcases A with _ | ad
  · have hn : n = 0 := by
      rcases Nat.eq_zero_or_pos n with h | h
      · exact h
      · obtain ⟨_, _, h', _⟩ := hr.2 h; cases h'
    subst hn
    obtain rfl : xs = [] := List.eq_nil_of_length_eq_zero hl
    exact run_convert_bytes_nil w src e hs he _ _ dst hd
  · rcases Nat.eq_zero_or_pos n with hn | hn
    · subst hn
      obtain rfl : xs = [] := List.eq_nil_of_length_eq_zero hl
      have h0 : (loadCells ad 0).run P w = .ok (([] : List Int).map (Value.int .u8)).toArray w := by simpa using run_loadCells_list (P := P) w ad [] (by intro j v hj; simp at hj)
      rw [run_convert_bytes_string w src dst e _ _ c hs he hd, run_bytesToString w _ _ c [] h0]
      rfl
    · obtain ⟨b, off, hA, _, hc⟩ := hr.2 hn
      injection hA with hA
      subst hA
      have hh := run_convert_bytes_arg (P := P) w src e hs he b off n c (xs.map fun x => (x.toNat : Int)) (by simpa using hl) (fun i hi => by
        have hi' : i < xs.length := by omega
        rw [hc i (.int .u8 (xs[i].toNat : Int)) (by simp [hi'])]
        simp [List.getD, hi']) dst hd
      rw [hh]
      simp [strOfNums, Function.comp_def]

theorem wp_bytes_string {P : Program} {w : World} {o : Oper} {a : Act} {K : Act → World → Prop} {Q : Exit → Act → World → Prop} (src dst : TypeId) (x : Operand) (ho : o.op = .convert src dst x) (e : TypeId)
    (hs : P.underlying src = some (.slice e)) (he : P.underlying e = some (.int .u8)) (hd : P.underlying dst = some .string)
    (B : Nat) (A : Option Addr) (n c : Nat) (xs : List UInt8) (hx : a.eval x = .slice A n c) (hr : Rd w B 1 A n (U8s xs)) (hK : K (a.put o.dst (.string ⟨xs.toArray⟩)) w) : o.wp P a w K Q := by
  have hrun := run_bytes_string (P := P) w src dst e hs he hd B A n c xs hr
  unfold Oper.wp execOp
  simp only [ho, hx, hrun, Sem.run_bind, Sem.run_pure, Result.andThen_ok]
  exact hK
theorem wpList_bytes_string {P : Program} {w : World} {ops : Array Oper} {rest : List Oper} {o : Oper} {a : Act} {Q : Exit → Act → World → Prop} (hgd : Region.wanted o (yielded ops a.tmps) = true) (src dst : TypeId) (x : Operand) (ho : o.op = .convert src dst x) (e : TypeId)
    (hs : P.underlying src = some (.slice e)) (he : P.underlying e = some (.int .u8)) (hd : P.underlying dst = some .string)
    (B : Nat) (A : Option Addr) (n c : Nat) (xs : List UInt8) (hx : a.eval x = .slice A n c) (hr : Rd w B 1 A n (U8s xs)) (hK : wpList P ops Q rest (a.put o.dst (.string ⟨xs.toArray⟩)) w) : wpList P ops Q (o :: rest) a w :=
  wpList_wanted hgd fun _ hK' => wp_bytes_string src dst x ho e hs he hd B A n c xs hx hr (hK' _ _ hK)

theorem arr_of_getD (x : Array Value) (n : Nat) (h : x.size = n) : x = ((List.range n).map fun t => x.getD t undef).toArray := by
  subst h
  apply Array.ext
  · simp
  · intro i h1 h2
    simp [Array.getD, h1]

/- MINE 5: append of a slice that reads as a list onto a row of the call's own; the source may be nil -/
section
variable {P : Program} (w : World)
theorem Rd.cells {w : World} {B size n : Nat} {b : Addr} {xs : List Value} (h : Rd w B size (some b) n xs) : ∀ j u, xs[j]? = some u → w.cell? (b.add j) = some u := by
  intro j u hu
  rcases Nat.eq_zero_or_pos n with h0 | h0
  · subst h0
    have : xs = [] := List.eq_nil_of_length_eq_zero (by simpa using h.1)
    subst this
    simp at hu
  · obtain ⟨b', off, hA, _, hc⟩ := h.2 h0
    injection hA with hA
    subst hA
    rw [add_none]
    exact hc j u hu

theorem run_append_nothing (base : Nat) (t ty e : TypeId) (i : TypeInfo) (size : Nat) (ht : P.underlying t = some (.slice e)) (hi : P.info? e = some i)
    (v : Value) (n : Nat) (xs : List Value) (hown : w.ownsRow base e size v n xs) (c : Nat) : (Builtin.append_ #[t, t] ty #[v, .slice none 0 c]).run P w = .ok v w := by
  rcases hown.2 with ⟨rfl, rfl⟩ | ⟨g, cap, cur, rfl, _, _, hnc, _⟩
  · simp [Builtin.append_, run_underlying ht, sizeOf, typeInfo, hi, Builtin.lenOf, Builtin.firstCells]
  · simp [Builtin.append_, run_underlying ht, sizeOf, typeInfo, hi, Builtin.lenOf, Builtin.firstCells, hnc, storeCells]

theorem run_append_rd (base : Nat) (t ty e : TypeId) (i : TypeInfo) (z : Value) (size bytes : Nat) (ht : P.underlying t = some (.slice e)) (hi : P.info? e = some i) (hz : i.zero = some z)
    (hsize : i.size = size) (hby : i.bytes = bytes) (hzs : z.cells.size = size) (hsz : 0 < size)
    (v : Value) (n : Nat) (xs : List Value) (hown : w.ownsRow base e size v n xs)
    (B : Nat) (A : Option Addr) (m c : Nat) (news : List Value) (hr : Rd w B size A m news) (h1 : ∀ u ∈ news, u.oneCell' = true)
    (h63 : n + m ≤ maxLen) (hbytes : (n + m) * bytes ≤ 140737488355328) (hbase : base ≤ w.heap.size) :
    ∃ A' c' w', (Builtin.append_ #[t, t] ty #[v, .slice A m c]).run P w = .ok (.slice A' (n + m) c') w' ∧ w'.ownsRow base e size (.slice A' (n + m) c') (n + m) (xs ++ news) ∧ w.grownBy w' v.ownBlock ∧
      ((Value.slice A' (n + m) c').ownBlock = v.ownBlock ∨ (Value.slice A' (n + m) c').ownBlock = some w.heap.size) ∧ Below base w w' := by
  have hlow : ∀ k, v.ownBlock = some k → base ≤ k := fun k hk => (hown.lt k hk).1
  rcases A with _ | ad
  · have hm : m = 0 := by
      rcases Nat.eq_zero_or_pos m with h0 | h0
      · exact h0
      · obtain ⟨_, _, h, _⟩ := hr.2 h0; cases h
    subst hm
    obtain rfl : news = [] := List.eq_nil_of_length_eq_zero (by simpa using hr.1)
    obtain ⟨A', c', rfl⟩ := own_shape hown
    exact ⟨A', c', w, run_append_nothing w base t ty e i size ht hi _ n xs hown c, by simpa using hown, World.grownBy.refl w _, .inl rfl, Below.refl _ _⟩
  · obtain ⟨v', w', hrun, h2, h3, _, h5⟩ := run_append_own_at (P := P) w base t ty e i z size bytes ht hi hz hsize hby hzs hsz v n xs hown ad m c news hr.1 hr.cells h1 h63 hbytes hbase
    obtain ⟨A', c', rfl⟩ := own_shape h2
    exact ⟨A', c', w', hrun, h2, h3, h5, (Below.refl _ _).grown h3 hbase hlow⟩

theorem wp_append_rd {o : Oper} {a : Act} {K : Act → World → Prop} {Q : Exit → Act → World → Prop} (s x : Operand) (t : TypeId)
    (ho : o.op = .call { callee := .builtin .append, args := #[s, x], argTypes := #[t, t] })
    (base : Nat) (e : TypeId) (i : TypeInfo) (z : Value) (size bytes : Nat) (ht : P.underlying t = some (.slice e)) (hi : P.info? e = some i) (hz : i.zero = some z)
    (hsize : i.size = size) (hby : i.bytes = bytes) (hzs : z.cells.size = size) (hsz : 0 < size)
    (v : Value) (n : Nat) (xs : List Value) (hs : a.eval s = v) (hown : w.ownsRow base e size v n xs)
    (B : Nat) (A : Option Addr) (m c : Nat) (news : List Value) (hx : a.eval x = .slice A m c) (hr : Rd w B size A m news) (h1 : ∀ u ∈ news, u.oneCell' = true)
    (h63 : n + m ≤ maxLen) (hbytes : (n + m) * bytes ≤ 140737488355328) (hbase : base ≤ w.heap.size)
    (h : ∀ A' c' w', w'.ownsRow base e size (.slice A' (n + m) c') (n + m) (xs ++ news) → w.grownBy w' v.ownBlock →
      ((Value.slice A' (n + m) c').ownBlock = v.ownBlock ∨ (Value.slice A' (n + m) c').ownBlock = some w.heap.size) → Below base w w' → K (a.put o.dst (.slice A' (n + m) c')) w') : o.wp P a w K Q := by
  obtain ⟨A', c', w', hrun, h2, h3, h4, h5⟩ := run_append_rd (P := P) w base t o.type e i z size bytes ht hi hz hsize hby hzs hsz v n xs hown B A m c news hr h1 h63 hbytes hbase
  unfold Oper.wp execOp
  simp only [ho, resolve, invoke, builtin, Sem.run_bind, Sem.run_pure, Result.andThen_ok, List.map_toArray, List.map_cons, List.map_nil, hs, hx, hrun]
  exact h A' c' w' h2 h3 h4 h5

theorem wpList_append_rd {ops : Array Oper} {rest : List Oper} {o : Oper} {a : Act} {Q : Exit → Act → World → Prop} (hgd : Region.wanted o (yielded ops a.tmps) = true) (s x : Operand) (t : TypeId)
    (ho : o.op = .call { callee := .builtin .append, args := #[s, x], argTypes := #[t, t] })
    (base : Nat) (e : TypeId) (i : TypeInfo) (z : Value) (size bytes : Nat) (ht : P.underlying t = some (.slice e)) (hi : P.info? e = some i) (hz : i.zero = some z)
    (hsize : i.size = size) (hby : i.bytes = bytes) (hzs : z.cells.size = size) (hsz : 0 < size)
    (v : Value) (n : Nat) (xs : List Value) (hs : a.eval s = v) (hown : w.ownsRow base e size v n xs)
    (B : Nat) (A : Option Addr) (m c : Nat) (news : List Value) (hx : a.eval x = .slice A m c) (hr : Rd w B size A m news) (h1 : ∀ u ∈ news, u.oneCell' = true)
    (h63 : n + m ≤ maxLen) (hbytes : (n + m) * bytes ≤ 140737488355328) (hbase : base ≤ w.heap.size)
    (h : ∀ A' c' w', w'.ownsRow base e size (.slice A' (n + m) c') (n + m) (xs ++ news) → w.grownBy w' v.ownBlock →
      ((Value.slice A' (n + m) c').ownBlock = v.ownBlock ∨ (Value.slice A' (n + m) c').ownBlock = some w.heap.size) → Below base w w' → wpList P ops Q rest (a.put o.dst (.slice A' (n + m) c')) w') : wpList P ops Q (o :: rest) a w :=
  wpList_wanted hgd fun _ hK => wp_append_rd w s x t ho base e i z size bytes ht hi hz hsize hby hzs hsz v n xs hs hown B A m c news hx hr h1 h63 hbytes hbase fun A' c' w' h2 h3 h4 h5 => hK _ _ (h A' c' w' h2 h3 h4 h5)
end

/- MINE 6: a block that is known whole -/
def Blk (w : World) (g : Nat) (t : TypeId) (cs : Array Value) : Prop := w.heap[g]? = some (.cells cs t (0, 0))
section
variable {w w' : World} {g : Nat} {t : TypeId} {cs : Array Value}
theorem Blk.lt (h : Blk w g t cs) : g < w.heap.size := (Array.getElem?_eq_some_iff.1 h).1
theorem Blk.cell (h : Blk w g t cs) (i : Nat) : w.cell? ⟨g, i, none⟩ = cs[i]? := cell_of_row w g i cs t (0, 0) h
theorem Blk.frozen (h : Blk w g t cs) (i : Nat) : w.frozen? ⟨g, i, none⟩ = false := by
  unfold Blk at h
  simp [World.frozen?, h]
theorem Blk.new (w : World) (t : TypeId) (cs : Array Value) : Blk (w.alloc (.cells cs t)) w.heap.size t cs := heap_alloc_new w _
theorem Blk.set_ (h : Blk w g t cs) (i : Nat) (u : Value) : Blk (w.setCell ⟨g, i, none⟩ u) g t (cs.setIfInBounds i u) := by
  unfold Blk at h ⊢
  simp [World.setCell, Array.getElem?_modify, h]
theorem Blk.far (h : Blk w g t cs) {p : Addr} (hp : g ≠ p.block) (u : Value) : Blk (w.setCell p u) g t cs := (Below.heap_setCell w p u g hp).trans h
theorem Blk.below {B : Nat} (h : Blk w g t cs) (hb : Below B w w') (hg : g < B) : Blk w' g t cs := (hb.block g hg).trans h
theorem Blk.le (h : Blk w g t cs) (hb : Le w w') : Blk w' g t cs := h.below hb h.lt
theorem Blk.grown {row : Option Nat} (h : Blk w g t cs) (hb : w.grownBy w' row) (hg : some g ≠ row) : Blk w' g t cs := (hb.block g h.lt hg).trans h
/-- the first n elements of a known block, read as a slice -/
theorem Blk.rd (h : Blk w g t cs) (B size n : Nat) (hB : g < B) (hn : n * size ≤ cs.size) : Rd w B size (some ⟨g, 0, none⟩) n (cs.toList.take (n * size)) := by
  refine ⟨by simp; omega, fun _ => ⟨g, 0, rfl, hB, fun j u hu => ?_⟩⟩
  rw [Nat.zero_add, h.cell]
  rw [List.getElem?_take] at hu
  split at hu
  · simpa using hu
  · cases hu
theorem Blk.own (h : Blk w g t cs) {base n cap size : Nat} (hb : base ≤ g) (hn : n ≤ cap) (hc : cap ≤ maxLen) (hs : cs.size = cap * size) : w.ownsRow base t size (.slice (some ⟨g, 0, none⟩) n cap) n (cs.toList.take (n * size)) :=
  ⟨by have := Nat.mul_le_mul_right size hn; simp; omega, .inr ⟨g, cap, cs, rfl, hb, h, hn, hc, hs, rfl⟩⟩
end
theorem own_below {w w' : World} {base B : Nat} {e : TypeId} {size n : Nat} {v : Value} {xs : List Value} (h : w.ownsRow base e size v n xs) (hb : Below B w w') (hB : ∀ k, v.ownBlock = some k → k < B) : w'.ownsRow base e size v n xs := by
  refine ⟨h.1, ?_⟩
  rcases h.2 with h0 | ⟨g, cap, cur, rfl, hg, hh, r⟩
  · exact .inl h0
  · exact .inr ⟨g, cap, cur, rfl, hg, (hb.block g (hB g rfl)).trans hh, r⟩
theorem own_le {w w' : World} {base : Nat} {e : TypeId} {size n : Nat} {v : Value} {xs : List Value} (h : w.ownsRow base e size v n xs) (hb : Le w w') : w'.ownsRow base e size v n xs :=
  own_below h hb fun k hk => (h.lt k hk).2
theorem own_more {w : World} {base base' : Nat} {e : TypeId} {size n : Nat} {v : Value} {xs : List Value} (h : w.ownsRow base e size v n xs) (hb : base' ≤ base) : w.ownsRow base' e size v n xs := by
  refine ⟨h.1, ?_⟩
  rcases h.2 with h0 | ⟨g, cap, cur, hv, hg, r⟩
  · exact .inl h0
  · exact .inr ⟨g, cap, cur, hv, Nat.le_trans hb hg, r⟩
end Go.Proofs.Ytleolanjlhbjlaa
