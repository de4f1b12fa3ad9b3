/-
  Conversions, literals, minimum and maximum.
-/
import Derived.Test.YtfcbdkbdalbjmaaGhE
namespace Go.Gh
set_option linter.unusedVariables false
set_option linter.unusedSimpArgs false
open Go.RowKit

section
variable {P : Program} {base lim : Nat} {ι : Inj} {H : GHeap} {w : World}

theorem gmin2_ok {x y x' y' r : Value} (hx : VR ι x x') (hy : VR ι y y') (hr : gmin2 x y = some r) : (Builtin.min2 x' y').run P w = .ok r w ∧ VR ι r r := by
  unfold gmin2 at hr
  split at hr
  · obtain rfl := hx.int_inv; obtain rfl := hy.int_inv
    cases hr
    exact ⟨by simp [Builtin.min2], .lit rfl⟩
  · cases hr
theorem gmax2_ok {x y x' y' r : Value} (hx : VR ι x x') (hy : VR ι y y') (hr : gmax2 x y = some r) : (Builtin.max2 x' y').run P w = .ok r w ∧ VR ι r r := by
  unfold gmax2 at hr
  split at hr
  · obtain rfl := hx.int_inv; obtain rfl := hy.int_inv
    cases hr
    exact ⟨by simp [Builtin.max2], .lit rfl⟩
  · cases hr
theorem gfold_ok {g : Value → Value → Option Value} {f : Value → Value → Sem Value} (hf : ∀ x y x' y' r, VR ι x x' → VR ι y y' → g x y = some r → (f x' y').run P w = .ok r w ∧ VR ι r r) :
    ∀ (l l' : List Value) (x x' r : Value), VRs ι l l' → VR ι x x' → gfold g l x = some r → ∃ r', (l'.foldlM f x').run P w = .ok r' w ∧ VR ι r r'
  | [], l', x, x', r, hl, hx, hr => by
    obtain rfl := hl.nil_inv
    cases hr
    exact ⟨x', by simp [List.foldlM], hx⟩
  | y :: l, l', x, x', r, hl, hx, hr => by
    obtain ⟨y', l2, rfl, hy, hl2⟩ := hl.cons_inv
    simp only [gfold, Option.bind_eq_some_iff] at hr
    obtain ⟨z, hz, hr⟩ := hr
    obtain ⟨h1, h2⟩ := hf x y x' y' z hx hy hz
    obtain ⟨r', h3, h4⟩ := gfold_ok hf l l2 z z r hl2 h2 hr
    exact ⟨r', by simp [List.foldlM, h1, h3], h4⟩

/-- the first cells of a slice, or a string's bytes -/
theorem gcells_ok (h : HR P base lim ι H.t w) {size m : Nat} {x x' : Value} {cs : List Value} (hx : VR ι x x') (hr : gcells size m H x = some cs) (hm : ∀ a n c, x = .slice a n c → m ≤ n) (hs : ∀ s, x = .string s → m ≤ s.size) :
    ∃ ds, (Builtin.firstCells size m x').run P w = .ok ds.toArray w ∧ VRs ι cs ds ∧ (∀ v ∈ cs, flatV v = true) ∧ ((∃ a n c, x = .slice (some a) n c) → cs.length = m * size) := by
  unfold gcells at hr
  split at hr
  · obtain ⟨_, _, rfl⟩ := hx.slN_inv
    cases hr
    exact ⟨[], by simp [Builtin.firstCells], .nil, by simp, by rintro ⟨_, _, _, h⟩; cases h⟩
  · rename_i i o n gc
    have hmn := hm _ _ _ rfl
    by_cases h0 : m * size = 0
    · rw [if_pos h0] at hr
      cases hr
      obtain ⟨b, c', rfl⟩ := hx.slS_inv
      exact ⟨[], by simp [Builtin.firstCells, h0, loadCells, loadCellsFrom], .nil, by simp, fun _ => by simp [h0]⟩
    · rw [if_neg h0] at hr
      split at hr
      · cases hr
      · rename_i cs0 hcs
        split at hr
        · rename_i hn
          cases hr
          cases hx with
          | lit h => simp [litFlat] at h
          | slV => exfalso; apply h0; obtain rfl : m = 0 := by omega
                   simp
          | sl hl =>
            rename_i c l _ _ _
            obtain ⟨ds, h1, h2, h3, h4⟩ := h.row hl hcs o (m * size) hn
            refine ⟨ds, ?_, h2, ?_, fun _ => by simp; omega⟩
            · simp only [Builtin.firstCells]
              exact run_loadCells_row h1 h3
            · intro v hv
              have hv2 := List.mem_of_mem_drop (List.mem_of_mem_take hv)
              obtain ⟨j, hj⟩ := List.getElem?_of_mem hv2
              exact (h.cell hl hcs hj).1
        · cases hr
  · rename_i s
    obtain rfl := hx.str_inv
    cases hr
    have hs2 := hs s rfl
    refine ⟨(s.data.toList.take m).map fun b => Value.int .u8 b.toNat, ?_, VRs.lits ?_, ?_, fun hh => ?_⟩
    · simp only [Builtin.firstCells, Sem.run_pure]
      congr 1
      apply Array.ext'
      simp [Array.toList_extract, List.extract, List.map_take]
    · intro v hv; obtain ⟨b, _, rfl⟩ := List.mem_map.1 hv; rfl
    · intro v hv; obtain ⟨b, _, rfl⟩ := List.mem_map.1 hv; rfl
    · obtain ⟨_, _, _, hh⟩ := hh; cases hh
  · cases hr

theorem gbytes_ok : ∀ (l : List Value) (b : List UInt8), gbytes l = some b → ∀ (ds : List Value), VRs ι l ds → ∃ ns : List Int, ds = ns.map (Value.int .u8) ∧ b = ns.map fun n => UInt8.ofNat n.toNat
  | [], b, h, ds, hd => by
    cases h
    obtain rfl := hd.nil_inv
    exact ⟨[], rfl, rfl⟩
  | v :: l, b, h, ds, hd => by
    obtain ⟨v', ds', rfl, hv, hd'⟩ := hd.cons_inv
    cases v with
    | int k n =>
      cases k <;> simp [gbytes] at h
      obtain ⟨b', hb, rfl⟩ := h
      obtain rfl := hv.int_inv
      obtain ⟨ns, rfl, rfl⟩ := gbytes_ok l b' hb ds' hd'
      exact ⟨n :: ns, rfl, rfl⟩
    | _ => simp [gbytes] at h
theorem grunes_ok : ∀ (l : List Value) (b : List Int), grunes l = some b → ∀ (ds : List Value), VRs ι l ds → ds = b.map (Value.int .i32)
  | [], b, h, ds, hd => by
    cases h
    obtain rfl := hd.nil_inv
    rfl
  | v :: l, b, h, ds, hd => by
    obtain ⟨v', ds', rfl, hv, hd'⟩ := hd.cons_inv
    cases v with
    | int k n =>
      cases k <;> simp [grunes] at h
      obtain ⟨b', hb, rfl⟩ := h
      obtain rfl := hv.int_inv
      have := grunes_ok l b' hb ds' hd'
      rw [this]
      rfl
    | _ => simp [grunes] at h
theorem bytesToString_run (a : Addr) (n c : Nat) (ns : List Int) (h : (loadCells a n).run P w = .ok (ns.map (Value.int .u8)).toArray w) :
    (Conv.bytesToString (.slice (some a) n c)).run P w = .ok (.string ⟨(ns.map fun n => UInt8.ofNat n.toNat).toArray⟩) w := by
  rw [run_bytesToString w a n c ns h]
  congr 2
  have : ∀ (ns : List Int) (r : ByteArray), ns.foldl (fun r n => r.push (UInt8.ofNat n.toNat)) r = ⟨r.data ++ (ns.map fun n => UInt8.ofNat n.toNat).toArray⟩ := by
    intro ns
    induction ns with
    | nil => intro r; simp
    | cons n ns ih => intro r; rw [List.foldl_cons, ih]; simp [ByteArray.push]
  simpa using this ns .empty

/-- conversions that make no memory -/
theorem gconv_ok (h : HR P base lim ι H.t w) {s d : TypeId} {r : CvK} (hk : cvK P s d = some r) (hr1 : ∀ u, r ≠ .bytes u) (hr2 : ∀ u, r ≠ .runes u) {x x' v : Value} {new : Option GObj} (hx : VR ι x x') (hr : gconv r H x = some (v, new)) :
    new = none ∧ (convert s d x').run P w = .ok v w ∧ VR ι v v := by
  unfold cvK at hk
  unfold gconv at hr
  split at hr
  · obtain rfl := hx.int_inv
    cases hr
    split at hk <;> first | (cases hk; done) | skip
    · rename_i h1 h2; cases hk; exact ⟨rfl, by simp [convert, run_underlying h1, run_underlying h2, Conv.intToInt], .lit rfl⟩
    all_goals (split at hk <;> (try split at hk) <;> cases hk)
  · obtain rfl := hx.int_inv
    cases hr
    split at hk <;> first | (cases hk; done) | skip
    · rename_i h1 h2; exact ⟨rfl, by simp [convert, run_underlying h1, run_underlying h2, Conv.intToString], .lit rfl⟩
    all_goals (split at hk <;> (try split at hk) <;> cases hk)
  · obtain rfl := hx.str_inv
    cases hr
    split at hk <;> first | (cases hk; done) | skip
    · rename_i h1 h2; exact ⟨rfl, by simp [convert, run_underlying h1, run_underlying h2], .lit rfl⟩
    all_goals (split at hk <;> (try split at hk) <;> cases hk)
  · exact absurd rfl (hr1 _)
  · exact absurd rfl (hr2 _)
  · rename_i a n c
    split at hk <;> first | (cases hk; done) | skip
    · split at hk <;> (try split at hk) <;> cases hk
    · rename_i e h1 h2
      split at hk <;> first | (cases hk; done) | skip
      rename_i h3
      simp only [Option.bind_eq_some_iff, Option.map_eq_some_iff, Prod.mk.injEq] at hr
      obtain ⟨l, hl, b, hb, rfl, rfl⟩ := hr
      refine ⟨rfl, ?_, .lit rfl⟩
      cases a with
      | none =>
        obtain ⟨rfl, rfl, rfl⟩ := hx.slN_inv
        simp [gcells] at hl
        subst hl
        cases hb
        simp [convert, run_underlying h1, run_underlying h2, run_underlying h3, Conv.bytesToString]
        rfl
      | some a =>
        obtain ⟨b', c', rfl⟩ := hx.slS_inv
        obtain ⟨ds, e1, e2, _, e3⟩ := gcells_ok h hx hl (by intro a' n' c' e; cases e; exact Nat.le_refl _) (by intro s e; cases e)
        obtain ⟨ns, rfl, rfl⟩ := gbytes_ok l b hb ds e2
        have e4 : (loadCells b' n).run P w = .ok (ns.map (Value.int .u8)).toArray w := by
          simpa [Builtin.firstCells] using e1
        simp [convert, run_underlying h1, run_underlying h2, run_underlying h3, bytesToString_run b' n c' ns e4]
  · rename_i a n c
    split at hk <;> first | (cases hk; done) | skip
    · split at hk <;> (try split at hk) <;> cases hk
    · rename_i e h1 h2
      split at hk <;> first | (cases hk; done) | skip
      rename_i h3
      simp only [Option.bind_eq_some_iff, Option.map_eq_some_iff, Prod.mk.injEq] at hr
      obtain ⟨l, hl, b, hb, rfl, rfl⟩ := hr
      refine ⟨rfl, ?_, .lit rfl⟩
      cases a with
      | none =>
        obtain ⟨rfl, rfl, rfl⟩ := hx.slN_inv
        simp [gcells] at hl
        subst hl
        cases hb
        simp [convert, run_underlying h1, run_underlying h2, run_underlying h3, Conv.runesToString]
      | some a =>
        obtain ⟨b', c', rfl⟩ := hx.slS_inv
        obtain ⟨ds, e1, e2, _, e3⟩ := gcells_ok h hx hl (by intro a' n' c' e; cases e; exact Nat.le_refl _) (by intro s e; cases e)
        obtain rfl := grunes_ok l b hb ds e2
        have e4 : (loadCells b' n).run P w = .ok (b.map (Value.int .i32)).toArray w := by
          simpa [Builtin.firstCells] using e1
        rw [run_convert_runes_string w s d e _ _ _ h1 h3 h2, run_runesToString w b' n c' b e4]
        rfl
  · cases hr
end
end Go.Gh
