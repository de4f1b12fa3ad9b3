/-
  Walks: functions of values without memory; ranges over strings.
-/
import Derived.Test.YtjjcgaompnjbdaaDoorLb
import Derived.Lib.TrimU
namespace Go.Gh
set_option linter.unusedSimpArgs false
set_option linter.unusedVariables false
set_option maxHeartbeats 4000000
open Go.RowKit

theorem gev_GWP {G : FuncId → Option GEnt} {f : FuncId} {g : GFun} (hG : G f = some (.pure g)) {args : List Value} (ha : args.all litOk = true) {v : Value} (hv : litVal v = true)
    (h : ∀ Post : Value → GHeap → Prop, (∀ H', Post v H') → GW (gev G) g.body [] (GR g.rets Post) (frameOf 0 args .nil) ⟨.nil, 0, 0⟩) (H : GHeap) : gev G f args H = some (v, H) := by
  obtain ⟨m, v', H', h1, h2⟩ := gbody_of (call := gev G) (g := g) (args := args) (H := ⟨.nil, 0, 0⟩) (R := fun v' _ => v' = v) (gwp_mono (h (fun v' _ => v' = v) fun _ => rfl).ok fun e fr H h => by
    cases e with
    | normal => exact h.ok
    | ret => exact h.ok
    | exit id => exact h
    | goto l => exact h)
  subst h2
  exact gev_pure hG ha hv h1
/-- a kernel run of a function of values without memory -/
theorem gev_run {G : FuncId → Option GEnt} {f : FuncId} {g : GFun} (hG : G f = some (.pure g)) {m d : Nat} {args : List Value} (ha : args.all litOk = true) {v : Value} (hv : litVal v = true)
    (h : (gbody (gcall G m d) m g args ⟨.nil, 0, 0⟩).map (·.1) = some v) (H : GHeap) : gev G f args H = some (v, H) := by
  simp only [Option.map_eq_some_iff] at h
  obtain ⟨⟨v', H'⟩, h1, rfl⟩ := h
  exact gev_pure hG ha hv (m := m) (gbody_mono (fun f args H r h => gev_of_gcall h) (Nat.le_refl _) h1)
theorem one_of {G : FuncId → Option GEnt} {f : FuncId} {args : List Value} {H : GHeap} {v : Value} (e : gev G f args H = some (v, H)) : ∃ r H', gev G f args H = some (r, H') ∧ (r = v ∧ H' = H) := ⟨v, H, e, rfl, rfl⟩

/-! ### ranges over strings -/
section
variable {call : GCall} {fr : Fr} {H : GHeap} {i : Nat} {s : ByteArray} {pos : Nat}
theorem gnext_yes (hl : H.lim ≤ i) (ho : H.obj i = some (.iter s pos)) (hp : pos < s.size) : gnext H (.pointer (some ⟨i, 0, none⟩)) = some (.tuple #[.bool true, .int .i64 (pos : Int), .int .i32 ((Utf8.decode s pos).1 : Int)], H.put i (.iter s (pos + (Utf8.decode s pos).2))) := by
  simp only [gnext]
  rw [if_pos hl, ho]
  simp only
  rw [if_pos hp]
theorem gnext_no (hl : H.lim ≤ i) (ho : H.obj i = some (.iter s pos)) (hp : ¬ pos < s.size) : gnext H (.pointer (some ⟨i, 0, none⟩)) = some (.tuple #[.bool false], H) := by
  simp only [gnext]
  rw [if_pos hl, ho]
  simp only
  rw [if_neg hp]
/-- the runes of a string from a place on -/
def rnsF (s : ByteArray) : Nat → Nat → List Nat
  | 0, _ => []
  | k + 1, pos => if pos < s.size then (Utf8.decode s pos).1 :: rnsF s k (pos + (Utf8.decode s pos).2) else []
def rnsAt (s : ByteArray) (pos : Nat) : List Nat := rnsF s (s.size - pos) pos
def rns (s : ByteArray) : List Nat := rnsAt s 0
theorem rnsF_fuel (s : ByteArray) : ∀ (k k' pos : Nat), s.size - pos ≤ k → s.size - pos ≤ k' → rnsF s k pos = rnsF s k' pos
  | 0, 0, _, _, _ => rfl
  | 0, k' + 1, pos, h, _ => by simp only [rnsF]; rw [if_neg (by omega)]
  | k + 1, 0, pos, _, h => by simp only [rnsF]; rw [if_neg (by omega)]
  | k + 1, k' + 1, pos, h, h' => by
    have hw := Go.Lib.width_pos s pos
    simp only [rnsF]
    split
    · rw [rnsF_fuel s k k' _ (by omega) (by omega)]
    · rfl
theorem rnsAt_yes {s : ByteArray} {pos : Nat} (h : pos < s.size) : rnsAt s pos = (Utf8.decode s pos).1 :: rnsAt s (pos + (Utf8.decode s pos).2) := by
  have hw := Go.Lib.width_pos s pos
  unfold rnsAt
  obtain ⟨k, hk⟩ : ∃ k, s.size - pos = k + 1 := ⟨s.size - pos - 1, by omega⟩
  rw [hk, rnsF, if_pos h, rnsF_fuel s k (s.size - (pos + (Utf8.decode s pos).2)) _ (by omega) (by omega)]
theorem rnsAt_no {s : ByteArray} {pos : Nat} (h : ¬ pos < s.size) : rnsAt s pos = [] := by
  unfold rnsAt
  rw [show s.size - pos = 0 by omega]; rfl
theorem rnsAt_len (s : ByteArray) : ∀ (k pos : Nat), s.size - pos ≤ k → (rnsAt s pos).length ≤ s.size - pos
  | 0, pos, h => by rw [rnsAt_no (by omega)]; simp
  | k + 1, pos, h => by
    by_cases hp : pos < s.size
    · have hw := Go.Lib.width_pos s pos
      rw [rnsAt_yes hp]
      have := rnsAt_len s k (pos + (Utf8.decode s pos).2) (by omega)
      simp only [List.length_cons]; omega
    · rw [rnsAt_no hp]; simp
theorem rns_len (s : ByteArray) : (rns s).length ≤ s.size := rnsAt_len s _ 0 (Nat.le_refl _)
theorem rns_le (s : ByteArray) : ∀ (k pos : Nat), s.size - pos ≤ k → ∀ r ∈ rnsAt s pos, r ≤ 1114111
  | 0, pos, h, r, hr => by rw [rnsAt_no (by omega)] at hr; cases hr
  | k + 1, pos, h, r, hr => by
    by_cases hp : pos < s.size
    · have hw := Go.Lib.width_pos s pos
      rw [rnsAt_yes hp] at hr
      rcases List.mem_cons.1 hr with rfl | hr
      · exact Go.Lib.rune_le s pos
      · exact rns_le s k _ (by omega) r hr
    · rw [rnsAt_no hp] at hr; cases hr
/-- an iterator over a string, what is left of it -/
structure ItAt (H : GHeap) (v : Value) (l : List Nat) : Prop where
  ex : ∃ i s pos, v = .pointer (some ⟨i, 0, none⟩) ∧ H.lim ≤ i ∧ H.obj i = some (.iter s pos) ∧ l = rnsAt s pos
def itId : Value → Nat
  | .pointer (some a) => a.block
  | _ => 0
/-- an iterator that was just made -/
theorem ItAt.new (hl : H.lim ≤ H.len) : ItAt (H.add (some (.iter s 0))) (.pointer (some ⟨H.len, 0, none⟩)) (rns s) :=
  ⟨H.len, s, 0, rfl, hl, by rw [obj_add, if_pos rfl], rfl⟩
theorem ItAt.nil {v : Value} (h : ItAt H v []) : gnext H v = some (.tuple #[.bool false], H) := by
  obtain ⟨i, s, pos, rfl, h1, h2, h3⟩ := h.ex
  refine gnext_no h1 h2 fun hp => ?_
  rw [rnsAt_yes hp] at h3; cases h3
/-- a round: the next rune, and where in the string it stands -/
theorem ItAt.cons {v : Value} {r : Nat} {l : List Nat} (h : ItAt H v (r :: l)) : ∃ (pos : Nat) (o : GObj), gnext H v = some (.tuple #[.bool true, .int .i64 (pos : Int), .int .i32 (r : Int)], H.put (itId v) o) ∧ ItAt (H.put (itId v) o) v l ∧ r ≤ 1114111 := by
  obtain ⟨i, s, pos, rfl, h1, h2, h3⟩ := h.ex
  by_cases hp : pos < s.size
  · rw [rnsAt_yes hp] at h3
    simp only [List.cons.injEq] at h3
    obtain ⟨rfl, rfl⟩ := h3
    exact ⟨pos, _, gnext_yes h1 h2 hp, ⟨i, s, _, rfl, h1, by simp [GHeap.obj, GHeap.put, itId], rfl⟩, Go.Lib.rune_le s pos⟩
  · rw [rnsAt_no hp] at h3; cases h3
theorem ItAt.lt {v : Value} {l : List Nat} (hw : H.wf) (h : ItAt H v l) : itId v < H.len := by
  obtain ⟨i, s, pos, rfl, h1, h2, h3⟩ := h.ex
  exact (hw.2 i).1 (by rw [h2]; rfl)
theorem ItAt.keep {H' : GHeap} {v : Value} {l : List Nat} (h : ItAt H v l) (hl : H'.lim = H.lim) (ho : H'.obj (itId v) = H.obj (itId v)) : ItAt H' v l := by
  obtain ⟨i, s, pos, rfl, h1, h2, h3⟩ := h.ex
  exact ⟨i, s, pos, rfl, by rw [hl]; exact h1, Eq.trans ho h2, h3⟩
end
end Go.Gh
