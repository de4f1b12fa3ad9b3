/-
  Slices, lengths, conversions, literals: in the world as over the ghost heap.
-/
import Derived.Test.YtfcbdkbdalbjmaaGhD
import Derived.Laws.Cover4
import Derived.Laws.BytesArg
namespace Go.Gh
set_option linter.unusedVariables false
set_option linter.unusedSimpArgs false
open Go.RowKit

section
variable {P : Program} {base lim : Nat} {ι : Inj} {H : GHeap} {w : World}

theorem HR.unit (h : HR P base lim ι H.t w) {i : Nat} {l : GLoc} {u : Nat} (hi : ι i = some l) (hu : H.unit i = some u) : l.unit = usz u := by
  unfold GHeap.unit GHeap.obj at hu
  cases ho : H.t.get i with
  | none => rw [ho] at hu; cases hu
  | some o =>
    rw [ho] at hu
    cases hu
    have := h.obj i l o hi ho
    cases o with
    | dead u => exact this
    | cells cs u own => exact this.1
    | iter s pos => exact this.1.trans (by simp [GObj.unit, usz])

theorem gun_ok {op : UnOp} {x x' r : Value} (hx : VR ι x x') (hr : gun op x = some r) : (Op.unary op x').run P w = .ok r w ∧ VR ι r r := by
  unfold gun at hr
  split at hr
  · obtain rfl := hx.int_inv; cases hr; exact ⟨by simp [Op.unary, Op.intArith], .lit rfl⟩
  · obtain rfl := hx.int_inv
    simp only [gint, Option.some.injEq] at hr
    subst hr
    exact ⟨by simp [Op.unary, Op.intBits], .lit rfl⟩
  · obtain rfl := hx.bool_inv; cases hr; exact ⟨by simp [Op.unary], .lit rfl⟩
  · cases hr

/-- an operand that may be left out -/
def OptR (ι : Inj) : Option Value → Option Value → Prop
  | none, none => True
  | some v, some v' => VR ι v v'
  | _, _ => False
theorem sliceBound_run {k : IntKind} {i : Int} {y : Nat} (code : BoundsCode) (h : 0 ≤ i ∧ i ≤ y) : (Instr.sliceBound (.int k i) y code).run P w = .ok i.toNat w := by
  simp [Instr.sliceBound, asIntOf, h.1, h.2]
theorem gbounds_ok {len cap : Nat} {lo hi lo' hi' : Option Value} {l h : Nat} (hl : OptR ι lo lo') (hh : OptR ι hi hi') (hg : gbounds len cap lo hi = some (l, h)) (b : Bool) (cap' : Nat) (hc : cap ≤ cap') :
    (Instr.sliceBounds b len cap' lo' hi' none).run P w = .ok (l, h, cap') w ∧ l ≤ h ∧ (h = len ∨ h ≤ cap) := by
  unfold gbounds at hg
  split at hg
  · cases hg
  · rename_i h0 hh0
    have step : ∃ m : Sem Nat, m.run P w = .ok h0 w ∧ (h0 = len ∨ h0 ≤ cap) ∧
        ∀ f : Nat → Sem (Nat × Nat × Nat), (Instr.sliceBounds b len cap' lo' hi' none).run P w = ((do
          let l ← match lo' with
            | some v => Instr.sliceBound v h0 .sliceB
            | none => pure 0
          pure (l, h0, cap') : Sem (Nat × Nat × Nat))).run P w := by
      split at hh0
      · cases hh0
        cases hi' with
        | some _ => exact hh.elim
        | none =>
          refine ⟨pure len, rfl, .inl rfl, fun _ => ?_⟩
          cases lo' <;> simp [Instr.sliceBounds]
      · rename_i k hv
        split at hh0
        · rename_i hb
          cases hh0
          cases hi' with
          | none => exact hh.elim
          | some v' =>
            obtain rfl := VR.int_inv (show VR ι (.int k hv) v' from hh)
            refine ⟨pure hv.toNat, rfl, .inr (by omega), fun _ => ?_⟩
            have e : ∀ code, (Instr.sliceBound (.int k hv) cap' code).run P w = .ok hv.toNat w := fun code => by simp [Instr.sliceBound, asIntOf]; intro hh; omega
            cases lo' <;> simp [Instr.sliceBounds, e]
        · cases hh0
      · cases hh0
    obtain ⟨_, _, h2, h3⟩ := step
    have h3 := h3 (fun _ => pure (0, 0, 0))
    split at hg
    · cases hg
      cases lo' with
      | some _ => exact hl.elim
      | none => exact ⟨by rw [h3]; simp, by omega, h2⟩
    · rename_i k lv
      split at hg
      · rename_i hb
        cases hg
        cases lo' with
        | none => exact hl.elim
        | some v' =>
          obtain rfl := VR.int_inv (show VR ι (.int k lv) v' from hl)
          have e : (Instr.sliceBound (.int k lv) h .sliceB).run P w = .ok lv.toNat w := by simp [Instr.sliceBound, asIntOf]; intro hh; omega
          exact ⟨by rw [h3]; simp [e], by omega, h2⟩
      · cases hg
    · cases hg
theorem gbounds3_ok {len cap m : Nat} {lo hi lo' hi' : Option Value} {l h : Nat} {k : IntKind} (hm : m ≤ cap) (hs : hi.isSome = true) (hl : OptR ι lo lo') (hh : OptR ι hi hi') (hg : gbounds len m lo hi = some (l, h)) (b : Bool) :
    (Instr.sliceBounds b len cap lo' hi' (some (.int k (m : Int)))).run P w = .ok (l, h, m) w ∧ l ≤ h ∧ h ≤ m := by
  have em : ∀ code, (Instr.sliceBound (.int k (m : Int)) cap code).run P w = .ok m w := fun code => by simp [Instr.sliceBound, asIntOf]; intro hh; omega
  unfold gbounds at hg
  cases hi with
  | none => simp at hs
  | some hv =>
    cases hi' with
    | none => exact hh.elim
    | some hv' =>
      cases hv with
      | int kh hn =>
        obtain rfl := VR.int_inv (show VR ι (.int kh hn) hv' from hh)
        simp only at hg
        by_cases hb : 0 ≤ hn ∧ hn ≤ m
        · rw [if_pos hb] at hg
          have eh : ∀ code, (Instr.sliceBound (.int kh hn) m code).run P w = .ok hn.toNat w := fun code => by simp [Instr.sliceBound, asIntOf]; intro hh; omega
          cases lo with
          | none =>
            cases lo' with
            | some _ => exact hl.elim
            | none => cases hg; exact ⟨by simp [Instr.sliceBounds, em, eh], by omega, by omega⟩
          | some lv =>
            cases lo' with
            | none => exact hl.elim
            | some lv' =>
              cases lv with
              | int kl ln =>
                obtain rfl := VR.int_inv (show VR ι (.int kl ln) lv' from hl)
                simp only at hg
                by_cases hb' : 0 ≤ ln ∧ ln ≤ hn.toNat
                · rw [if_pos hb'] at hg
                  cases hg
                  have el : ∀ code, (Instr.sliceBound (.int kl ln) hn.toNat code).run P w = .ok ln.toNat w := fun code => by simp [Instr.sliceBound, asIntOf]; intro hh; omega
                  exact ⟨by simp [Instr.sliceBounds, em, eh, el], by omega, by omega⟩
                · rw [if_neg hb'] at hg; cases hg
              | _ => simp at hg
        · rw [if_neg hb] at hg; cases hg
      | _ => simp at hg

theorem add_addr (b o n : Nat) : (⟨b, o, none⟩ : Addr).add n = ⟨b, o + n, none⟩ := by unfold Addr.add; split <;> simp_all

theorem gslice_ok (hh : HR P base lim ι H.t w) {t : TypeId} {r : SlK} (hk : slcK P t = some r) {x x' v : Value} {lo hi mx lo' hi' mx' : Option Value} (hx : VR ι x x') (hlo : OptR ι lo lo') (hhi : OptR ι hi hi') (hmx : OptR ι mx mx')
    (hr : gslice r H x lo hi mx = some v) : ∃ v', (Instr.sliceAt t x' lo' hi' mx').run P w = .ok v' w ∧ VR ι v v' := by
  have hcut : ∀ {i o n gc c l h m size u : Nat} {L : GLoc} (_ : ι i = some L) (_ : H.unit i = some u) (_ : u = 0 ∨ usz u = size) (_ : L.unit = 0 ∨ L.off + o + c * L.unit ≤ L.size) (_ : l ≤ h) (_ : h ≤ m) (_ : m ≤ c) (g : Nat) (_ : g = 0 ∨ g = m - l + 1),
      VR ι (.slice (some ⟨i, o + l * size, none⟩) (h - l) g) (.slice (if m = l then some ⟨L.block, L.off + o, none⟩ else (some (⟨L.block, L.off + o, none⟩ : Addr)).map (·.add (l * size))) (h - l) (m - l)) := by
    intro i o n gc c l h m size u L hL hu hus hb h1 h2 h3 g hg
    have hun := hh.unit hL hu
    by_cases e : m = l
    · subst e
      have : h - m = 0 := by omega
      rw [if_pos rfl, this, Nat.sub_self]
      exact .slV (by omega)
    · rw [if_neg e]
      simp only [Option.map_some, add_addr, Nat.add_assoc]
      refine .sl hL (by omega) hg ?_
      rcases hus with rfl | hus
      · left; rw [hun]; rfl
      · rcases hb with hb | hb
        · exact .inl hb
        · right
          rw [hun, hus] at hb ⊢
          have : l * size + (m - l) * size = m * size := by rw [← Nat.add_mul]; congr 1; omega
          have : m * size ≤ c * size := Nat.mul_le_mul_right _ h3
          omega
  unfold gslice at hr
  split at hr
  · rename_i s
    obtain rfl := hx.str_inv
    unfold slcK at hk
    split at hk
    · rename_i hs
      split at hr
      · cases hr
      · cases mx' with
        | some _ => exact hmx.elim
        | none =>
          simp only [Option.map_eq_some_iff] at hr
          obtain ⟨⟨l, h⟩, hg, rfl⟩ := hr
          obtain ⟨e1, _, _⟩ := gbounds_ok (P := P) (w := w) hlo hhi hg false s.size (Nat.le_refl _)
          exact ⟨_, by simp [Instr.sliceAt, Instr.slice, run_underlying hs, e1], .lit rfl⟩
    · simp at hk
    · simp at hk
    · cases hk
  · rename_i size
    obtain ⟨_, _, rfl⟩ := hx.slN_inv
    unfold slcK at hk
    split at hk
    · cases hk
    · rename_i e hs
      simp only [Option.map_eq_some_iff] at hk
      obtain ⟨sz, hsz, hz⟩ := hk
      split at hr
      · cases hr
      · cases mx' with
        | some _ => exact hmx.elim
        | none =>
          simp only [Option.map_eq_some_iff] at hr
          obtain ⟨⟨l, h⟩, hg, rfl⟩ := hr
          obtain ⟨e1, e2, e3⟩ := gbounds_ok (P := P) (w := w) hlo hhi hg true 0 (Nat.le_refl _)
          obtain rfl : h = 0 := by omega
          obtain rfl : l = 0 := by omega
          exact ⟨.slice none 0 0, by simp [Instr.sliceAt, Instr.slice, run_underlying hs, e1, szK_run hsz], .lit rfl⟩
    · simp at hk
    · cases hk
  · rename_i size i o n gc
    unfold slcK at hk
    split at hk
    · cases hk
    · rename_i e hs
      simp only [Option.map_eq_some_iff, SlK.sl.injEq] at hk
      obtain ⟨sz, hsz, rfl⟩ := hk
      have hszr := szK_run (w := w) hsz
      split at hr
      · rename_i u hu
        split at hr
        · rename_i hus
          split at hr
          · cases mx' with
            | some _ => exact hmx.elim
            | none =>
              simp only [Option.map_eq_some_iff] at hr
              obtain ⟨⟨l, h⟩, hg, rfl⟩ := hr
              cases hx with
              | lit h => simp [litFlat] at h
              | slV hgc =>
                rename_i y
                have hc0 : (if gc = 0 then 0 else gc - 1) ≤ 0 := by split <;> omega
                obtain ⟨e1, e2, e3⟩ := gbounds_ok (P := P) (w := w) hlo hhi hg true 0 hc0
                obtain rfl : h = 0 := by omega
                obtain rfl : l = 0 := by omega
                refine ⟨.slice (some y) 0 0, by simp [Instr.sliceAt, Instr.slice, run_underlying hs, e1, hszr], .slV (by split <;> omega)⟩
              | sl hL hn hgc hb =>
                rename_i c L
                have hc0 : (if gc = 0 then n else gc - 1) ≤ c := by split <;> omega
                obtain ⟨e1, e2, e3⟩ := gbounds_ok (P := P) (w := w) hlo hhi hg true c hc0
                refine ⟨_, by simp only [Instr.sliceAt, Instr.slice, Sem.run_bind, run_underlying hs, Result.andThen_ok, e1, hszr]; rfl, ?_⟩
                exact hcut (n := n) (gc := gc) hL hu hus hb e2 (by omega) (Nat.le_refl _) _ (by split <;> omega)
          · rename_i k m
            by_cases hm : 0 ≤ m ∧ m.toNat ≤ (if gc = 0 then n else gc - 1) ∧ hi.isSome = true
            · rw [if_pos hm] at hr
              simp only [Option.map_eq_some_iff] at hr
              obtain ⟨⟨l, h⟩, hg, rfl⟩ := hr
              cases mx' with
              | none => exact hmx.elim
              | some m' =>
                obtain rfl := VR.int_inv (show VR ι (.int k m) m' from hmx)
                obtain ⟨mm, rfl⟩ := Int.eq_ofNat_of_zero_le hm.1
                have hm2 := hm.2.1
                simp only [Int.toNat_natCast] at hm2 hg ⊢
                cases hx with
                | lit h => simp [litFlat] at h
                | slV hgc =>
                  rename_i y
                  obtain rfl : mm = 0 := by split at hm2 <;> omega
                  obtain ⟨e1, e2, e3⟩ := gbounds3_ok (P := P) (w := w) (k := k) (cap := 0) (Nat.le_refl _) hm.2.2 hlo hhi hg true
                  obtain rfl : h = 0 := by omega
                  obtain rfl : l = 0 := by omega
                  simp only [Int.natCast_zero] at e1 
                  exact ⟨.slice (some y) 0 0, by simp [Instr.sliceAt, Instr.slice, run_underlying hs, e1, hszr], .slV (by omega)⟩
                | sl hL hn hgc hb =>
                  rename_i c L
                  have hmc : mm ≤ c := by split at hm2 <;> omega
                  obtain ⟨e1, e2, e3⟩ := gbounds3_ok (P := P) (w := w) (k := k) hmc hm.2.2 hlo hhi hg true
                  refine ⟨_, by simp only [Instr.sliceAt, Instr.slice, Sem.run_bind, run_underlying hs, Result.andThen_ok, e1, hszr]; rfl, ?_⟩
                  exact hcut (n := n) (gc := gc) hL hu hus hb e2 e3 hmc _ (by omega)
            · rw [if_neg hm] at hr; cases hr
          · cases hr
        · cases hr
      · cases hr
    · simp at hk
    · cases hk
  · rename_i n size i o
    unfold slcK at hk
    split at hk
    · cases hk
    · simp at hk
    · rename_i n' e hs
      simp only [Option.map_eq_some_iff, SlK.arr.injEq] at hk
      obtain ⟨sz, hsz, rfl, rfl⟩ := hk
      have hszr := szK_run (w := w) hsz
      split at hr
      · rename_i hu
        split at hr
        · cases hr
        · cases mx' with
          | some _ => exact hmx.elim
          | none =>
            simp only [Option.map_eq_some_iff] at hr
            obtain ⟨⟨l, h⟩, hg, rfl⟩ := hr
            obtain ⟨L, hL, rfl⟩ := hx.ptr_inv
            obtain ⟨e1, e2, e3⟩ := gbounds_ok (P := P) (w := w) hlo hhi hg false n' (Nat.le_refl _)
            refine ⟨_, by simp only [Instr.sliceAt, Instr.sureAddr, Sem.run_bind, run_underlying hs, Result.andThen_ok, Sem.run_pure, e1, hszr]; rfl, ?_⟩
            have := hcut (o := o) (n := n') (gc := 0) (size := sz) hL hu (.inl rfl) (.inl ((hh.unit hL hu).trans rfl)) e2 (show h ≤ n' by omega) (Nat.le_refl _) (n' - l + 1) (.inr rfl)
            by_cases e : n' = l
            · rw [if_pos e] at this ⊢; exact this
            · rw [if_neg e] at this ⊢; exact this
      · cases hr
    · cases hk
  · cases hr
end
end Go.Gh
