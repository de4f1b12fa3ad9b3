/-
  Writing operations; what becomes of the ghost heap alone.
-/
import Derived.Test.YtfcbdkbdalbjmaaGhM
namespace Go.Gh
set_option linter.unusedVariables false
set_option linter.unusedSimpArgs false
open Go.RowKit

section
variable {P : Program} {base : Nat} {ι : Inj} {H H' : GHeap} {w : World} {fr : Fr} {act : Act}
theorem args_two {xs : Array Operand} {a b : GArg} (h : cArgs P xs.toList = some [a, b]) : ∃ x y, xs = #[x, y] ∧ cArg P x = some a ∧ cArg P y = some b := by
  obtain ⟨x, l, hx, ha, hl⟩ := args_cons h
  cases l with
  | nil => cases hl
  | cons y l2 =>
    simp only [cArgs] at hl
    split at hl
    · rename_i b' m hb hm
      cases hl
      cases l2 with
      | nil => exact ⟨x, y, by apply Array.ext'; simpa using hx, ha, hb⟩
      | cons z l3 => have := cArgs_len _ _ hm; simp at this
    · cases hl
theorem gopW_ok {o : Oper} {g : GOp} (hc : cOp P o.op = some g) {v : Value} (hW : gopW fr H g = some (v, H')) (h : HR P base H.lim ι H.t w) (hfr : FR ι fr act) (hb : szK P P.rt.byte = some 1) (hn : H.len < H'.len → ι H.len = none) :
    WOk P base ι H w v H' (execOp act.eval o) := by
  obtain ⟨dst, op, ty, pos, after, guard⟩ := o
  simp only at hc
  cases g with
  | store k p x =>
    have hop : ∃ t P' X, op = .store t P' X := by
      cases op <;> first
        | exact ⟨_, _, _, rfl⟩
        | (exfalso; revert hc; simp only [cOp]; (repeat' split) <;> first | contradiction | simp)
    obtain ⟨t, p', x', rfl⟩ := hop
    simp only [cOp] at hc
    split at hc
    · rename_i k' a b hk ha hb'
      cases hc
      simp only [gopW, Option.bind_eq_some_iff, Option.map_eq_some_iff, Prod.mk.injEq] at hW
      obtain ⟨pv, hpv, xv, hxv, H2, hst, rfl, rfl⟩ := hW
      obtain ⟨w', i, l, r1, r2, r3, r4, r5, r6, _⟩ := gst_ok h hk (cArg_ok ha hpv hfr h) (cArg_ok hb' hxv hfr h) hst
      refine ⟨undef, w', .inr ⟨?_, rfl⟩, ι, .tup rfl (by simp), r2, r5, Inj.le.refl _, fun j l' e => .inl e⟩
      show (do Instr.storeAt t (act.eval p') (act.eval x'); pure Next.skip : Sem Next).run P w = _
      simp [r1]
    · cases hc
  | next x =>
    have hop : ∃ X, op = .next X true := by
      cases op <;> first
        | (rename_i b; cases b <;> first | exact ⟨_, rfl⟩ | (simp [cOp] at hc; done))
        | (exfalso; revert hc; simp only [cOp]; (repeat' split) <;> first | contradiction | simp)
    obtain ⟨X, rfl⟩ := hop
    simp only [cOp, Option.map_eq_some_iff, GOp.next.injEq] at hc
    obtain ⟨a, ha, rfl⟩ := hc
    simp only [gopW, Option.bind_eq_some_iff] at hW
    obtain ⟨xv, hxv, hW⟩ := hW
    exact gnext_ok (ty := ty) h (cArg_ok ha hxv hfr h) hW
  | app size bytes u s x =>
    obtain ⟨args, ts, rfl⟩ := cOp_app hc
    obtain ⟨S, X, rfl, hS, hX, sT, xT, h0, h1, ⟨T⟩, _⟩ := app_inv hc
    simp only [gopW, Option.bind_eq_some_iff] at hW
    obtain ⟨sv, hsv, xv, hxv, hW⟩ := hW
    have := gapp_ok (ty := ty) h hb T (cArg_ok hS hsv hfr h) (cArg_ok hX hxv hfr h) hW hn
    have e := append_ts (ty := ty) (args := #[act.eval S, act.eval X]) h0 h1
    have ea : #[S, X].map act.eval = #[act.eval S, act.eval X] := by simp
    rw [← e, ← ea] at this
    exact this
  | copy size d x =>
    have hop : ∃ args ts, op = .call { callee := .builtin .copy, args := args, argTypes := ts } := by
      cases op with
      | call c =>
        obtain ⟨callee, args, ts⟩ := c
        cases callee with
        | builtin b =>
          cases b with
          | copy => exact ⟨_, _, rfl⟩
          | _ => exfalso; simp only [cOp] at hc; revert hc; (repeat' split) <;> first | contradiction | simp
        | value f => exfalso; simp only [cOp] at hc; revert hc; (repeat' split) <;> simp
        | invoke r m => simp [cOp] at hc
      | _ => exfalso; revert hc; simp only [cOp]; (repeat' split) <;> first | contradiction | simp
    obtain ⟨args, ts, rfl⟩ := hop
    simp only [cOp] at hc
    split at hc <;> first | contradiction | skip
    rename_i d' x' hl
    obtain ⟨D, X, rfl, hD, hX⟩ := args_two hl
    split at hc
    · rename_i n hz
      cases hc
      simp only [Option.bind_eq_some_iff] at hz
      obtain ⟨e, ⟨dT, hdT, he⟩, hz⟩ := hz
      have hu : P.underlying dT = some (.slice e) := by
        unfold elK at he
        split at he
        · rename_i e' hu; cases he; exact hu
        · cases he
      simp only [gopW, Option.bind_eq_some_iff] at hW
      obtain ⟨dv, hdv, xv, hxv, hW⟩ := hW
      have := gcopy_ok (xT := dT) (ty := ty) h hu hz (by omega) (cArg_ok hD hdv hfr h) (cArg_ok hX hxv hfr h) hW
      have e1 : Builtin.copy_ ts ty #[act.eval D, act.eval X] = Builtin.copy_ #[dT, dT] ty #[act.eval D, act.eval X] := by
        unfold Builtin.copy_; rw [hdT]; rfl
      have ea : #[D, X].map act.eval = #[act.eval D, act.eval X] := by simp
      rw [← e1, ← ea] at this
      exact this
    · cases hc
  | _ => cases hW

/-! ### the ghost heap alone -/
def GHeap.wf (H : GHeap) : Prop := H.lim ≤ H.len ∧ ∀ i, (H.obj i).isSome = true ↔ i < H.len
structure Fwd (H H' : GHeap) : Prop where
  lim : H'.lim = H.lim
  len : H.len ≤ H'.len
  low : ∀ i, i < H.lim → H'.obj i = H.obj i
  unit : ∀ i u, H.unit i = some u → H'.unit i = some u
  wf : H.wf → H'.wf
theorem Fwd.refl (H : GHeap) : Fwd H H := ⟨rfl, Nat.le_refl _, fun _ _ => rfl, fun _ _ h => h, id⟩
theorem Fwd.trans {A B C : GHeap} (h : Fwd A B) (k : Fwd B C) : Fwd A C :=
  ⟨k.lim.trans h.lim, Nat.le_trans h.len k.len, fun i hi => (k.low i (by rw [h.lim]; exact hi)).trans (h.low i hi), fun i u e => k.unit i u (h.unit i u e), fun e => k.wf (h.wf e)⟩
theorem obj_put (H : GHeap) (i j : Nat) (o : GObj) : (H.put i o).obj j = if i = j then some o else H.obj j := Tr.get_set _ _ _ _
theorem obj_add (H : GHeap) (o : GObj) (j : Nat) : (H.add (some o)).obj j = if H.len = j then some o else H.obj j := Tr.get_set _ _ _ _
theorem Fwd.add (hw : H.wf) (new : Option GObj) : Fwd H (H.add new) := by
  cases new with
  | none => exact Fwd.refl H
  | some o =>
    refine ⟨rfl, by simp [GHeap.add], fun i hi => ?_, fun i u e => ?_, fun _ => ⟨by have := hw.1; simp [GHeap.add]; omega, fun i => ?_⟩⟩
    · rw [obj_add, if_neg (by have := hw.1; omega)]
    · unfold GHeap.unit at e ⊢
      rw [obj_add]
      by_cases hi : H.len = i
      · subst hi
        have := (hw.2 H.len).1
        cases ho : H.obj H.len with
        | none => rw [ho] at e; cases e
        | some o' => rw [ho] at this; have := this rfl; omega
      · rw [if_neg hi]; exact e
    · rw [obj_add]
      show _ ↔ i < H.len + 1
      by_cases hi : H.len = i
      · rw [if_pos hi]; simp; omega
      · rw [if_neg hi, hw.2 i]; omega
theorem Fwd.put (hw : H.wf) {i : Nat} {o o' : GObj} (hlim : H.lim ≤ i) (ho : H.obj i = some o) (hu : o'.unit = o.unit) : Fwd H (H.put i o') := by
  refine ⟨rfl, Nat.le_refl _, fun j hj => ?_, fun j u e => ?_, fun _ => ⟨hw.1, fun j => ?_⟩⟩
  · rw [obj_put, if_neg (by omega)]
  · unfold GHeap.unit at e ⊢
    rw [obj_put]
    by_cases hi : i = j
    · subst hi; rw [if_pos rfl]; rw [ho] at e; simpa [hu] using e
    · rw [if_neg hi]; exact e
  · rw [obj_put]
    show _ ↔ j < H.len
    by_cases hi : i = j
    · subst hi; rw [if_pos rfl]; simp; exact (hw.2 i).1 (by rw [ho]; rfl)
    · rw [if_neg hi]; exact hw.2 j
/-- what is not aimed at stays -/
def Spares (H H' : GHeap) (tgt : List Nat) : Prop := ∀ i, i < H.len → i ∉ tgt → H'.obj i = H.obj i
theorem gopW_fwd (hw : H.wf) {g : GOp} {v : Value} (hW : gopW fr H g = some (v, H')) : Fwd H H' ∧ ∀ tgt, (∀ x t, target g = some x → x.ev fr = some t → ∀ i ∈ idOf t, i ∈ tgt) → Spares H H' tgt := by
  have hput : ∀ {i : Nat} {o o' : GObj}, H.lim ≤ i → H.obj i = some o → o'.unit = o.unit → Fwd H (H.put i o') ∧ ∀ tgt : List Nat, i ∈ tgt → Spares H (H.put i o') tgt := fun hl ho hu =>
    ⟨Fwd.put hw hl ho hu, fun tgt hi j _ hj => by rw [obj_put, if_neg (by rintro rfl; exact hj hi)]⟩
  cases g with
  | store k p x =>
    simp only [gopW, Option.bind_eq_some_iff, Option.map_eq_some_iff, Prod.mk.injEq] at hW
    obtain ⟨pv, hpv, xv, hxv, H2, hst, rfl, rfl⟩ := hW
    unfold gst at hst
    split at hst
    · rename_i i o
      split at hst
      · cases hst
      · rename_i cs u hm
        obtain ⟨hl, ho⟩ := mine_some hm
        split at hst
        · split at hst
          · cases hst
            exact ⟨(hput hl ho (by rfl)).1, fun tgt ht => (hput hl ho (by rfl)).2 tgt (ht _ _ rfl hpv i (by simp [idOf]))⟩
          · cases hst
        · split at hst
          · split at hst
            · cases hst
              exact ⟨(hput hl ho (by rfl)).1, fun tgt ht => (hput hl ho (by rfl)).2 tgt (ht _ _ rfl hpv i (by simp [idOf]))⟩
            · cases hst
          · cases hst
    · cases hst
  | next x =>
    simp only [gopW, Option.bind_eq_some_iff] at hW
    obtain ⟨xv, hxv, hW⟩ := hW
    unfold gnext at hW
    split at hW
    · rename_i i
      split at hW
      · rename_i hl
        split at hW
        · rename_i s pos ho
          split at hW
          · cases hW
            obtain ⟨q1, q2⟩ := hput (o' := .iter s (pos + (Utf8.decode s pos).2)) hl ho rfl
            exact ⟨q1, fun tgt ht => q2 tgt (ht _ _ rfl hxv i (by simp [idOf]))⟩
          · cases hW
            exact ⟨Fwd.refl _, fun _ _ _ _ _ => rfl⟩
        · cases hW
      · cases hW
    · cases hW
  | app size bytes u s x =>
    simp only [gopW, Option.bind_eq_some_iff] at hW
    obtain ⟨sv, hsv, xv, hxv, hW⟩ := hW
    simp only [gapp, Option.bind_eq_some_iff] at hW
    obtain ⟨m, hm, news, hnews, hW⟩ := hW
    have hadd : ∀ o : GObj, Fwd H (H.add (some o)) ∧ ∀ tgt, Spares H (H.add (some o)) tgt := fun o => ⟨Fwd.add hw _, fun tgt j hj _ => by rw [obj_add, if_neg (by omega)]⟩
    split at hW
    · rename_i b n gc
      split at hW
      · cases hW; exact ⟨Fwd.refl _, fun _ _ _ _ _ => rfl⟩
      · split at hW
        · split at hW
          · split at hW
            · cases hW; exact ⟨(hadd _).1, fun tgt _ => (hadd _).2 tgt⟩
            · cases hW
          · rename_i i o
            split at hW
            · split at hW
              · rename_i cs uu hmine
                obtain ⟨hl, ho⟩ := mine_some hmine
                split at hW
                · cases hW
                  obtain ⟨q1, q2⟩ := hput (o' := .dead uu) hl ho rfl
                  refine ⟨q1.trans (Fwd.add (q1.wf hw) _), fun tgt ht j hj hjt => ?_⟩
                  rw [obj_add, if_neg (by simp only [GHeap.put]; omega)]
                  exact q2 tgt (ht _ _ rfl hsv i (by simp [idOf])) j hj hjt
                · cases hW
              · cases hW
            · split at hW
              · simp only [Option.bind_eq_some_iff] at hW
                obtain ⟨olds, ho, hW⟩ := hW
                split at hW
                · cases hW; exact ⟨(hadd _).1, fun tgt _ => (hadd _).2 tgt⟩
                · cases hW
              · split at hW
                · rename_i cs uu hmine
                  obtain ⟨hl, ho⟩ := mine_some hmine
                  split at hW
                  · cases hW
                    exact ⟨(hput hl ho (by rfl)).1, fun tgt ht => (hput hl ho (by rfl)).2 tgt (ht _ _ rfl hsv i (by simp [idOf]))⟩
                  · cases hW
                · cases hW
          · cases hW
        · cases hW
    · cases hW
  | copy size d x =>
    simp only [gopW, Option.bind_eq_some_iff] at hW
    obtain ⟨sv, hsv, xv, hxv, hW⟩ := hW
    simp only [gcopy, Option.bind_eq_some_iff] at hW
    obtain ⟨m, hm, hW⟩ := hW
    split at hW
    · rename_i b n gc
      simp only [Option.bind_eq_some_iff] at hW
      obtain ⟨news, hnews, hW⟩ := hW
      split at hW
      · cases hW; exact ⟨Fwd.refl _, fun _ _ _ _ _ => rfl⟩
      · split at hW
        · rename_i i o
          split at hW
          · rename_i cs uu hmine
            obtain ⟨hl, ho⟩ := mine_some hmine
            split at hW
            · cases hW
              exact ⟨(hput hl ho (by rfl)).1, fun tgt ht => (hput hl ho (by rfl)).2 tgt (ht _ _ rfl hsv i (by simp [idOf]))⟩
            · cases hW
          · cases hW
        · cases hW
    · cases hW
  | _ => cases hW
end
end Go.Gh
