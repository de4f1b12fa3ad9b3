/-
  Walks by one row of tactics: rules that show each step alone, the rest of the code behind a name.
-/
import Derived.Test.YtfcbdkbdalbjmaaGhY
namespace Go.Gh
set_option linter.unusedVariables false
set_option linter.unusedSimpArgs false
open Go.RowKit

namespace Tr
variable {α : Type}
theorem setF_self : ∀ (k : Nat) (t : Tr α) (n : Nat) (x : α), n ≤ k → getF k t n = some x → setF k t n x = t := by
  intro k
  induction k with
  | zero =>
    intro t n x hn h
    cases t with
    | nil => simp [getF] at h
    | node l v r => simp only [getF] at h; subst h; rfl
  | succ k ih =>
    intro t n x hn h
    cases t with
    | nil => simp [getF] at h
    | node l v r =>
      simp only [getF] at h
      simp only [setF]
      cases h0 : n == 0 with
      | true => rw [h0] at h; simp only [cond_true] at h ⊢; rw [h]
      | false =>
        rw [h0] at h
        have : n ≠ 0 := by simpa using h0
        cases h1 : n % 2 == 1 with
        | true => rw [h1] at h; simp only [cond_true, cond_false] at h ⊢; rw [ih _ _ _ (by omega) h]
        | false => rw [h1] at h; simp only [cond_false] at h ⊢; rw [ih _ _ _ (by omega) h]
theorem set_self {t : Tr α} {n : Nat} {x : α} (h : t.get n = some x) : t.set n x = t := setF_self n t n x (Nat.le_refl _) h
end Tr

/-! ### the code that is left -/
inductive Kt where
  | seq (c : GCode)
  | blk (id : Nat)
  | inv (I : Fr → GHeap → Prop)
section
variable {call : GCall}
def gpop (call : GCall) (R : Fr → GHeap → Prop) : List Kt → GExit → Fr → GHeap → Prop
  | [], .normal, fr, H => R fr H
  | [], .ret, fr, H => R fr H
  | [], .exit _, _, _ => False
  | .seq c :: ks, .normal, fr, H => gwp call c (gpop call R ks) fr H
  | .seq _ :: ks, e, fr, H => gpop call R ks e fr H
  | .blk _ :: ks, .normal, fr, H => gpop call R ks .normal fr H
  | .blk _ :: ks, .ret, fr, H => gpop call R ks .ret fr H
  | .blk i :: ks, .exit id, fr, H => if id = i then gpop call R ks .normal fr H else gpop call R ks (.exit id) fr H
  | .inv I :: _, .normal, fr, H => I fr H
  | .inv _ :: ks, e, fr, H => gpop call R ks e fr H
structure GW (call : GCall) (c : GCode) (ks : List Kt) (R : Fr → GHeap → Prop) (fr : Fr) (H : GHeap) : Prop where
  ok : gwp call c (gpop call R ks) fr H
structure GN (call : GCall) (ks : List Kt) (R : Fr → GHeap → Prop) (fr : Fr) (H : GHeap) : Prop where
  ok : gpop call R ks .normal fr H
structure GX (call : GCall) (id : Nat) (ks : List Kt) (R : Fr → GHeap → Prop) (fr : Fr) (H : GHeap) : Prop where
  ok : gpop call R ks (.exit id) fr H
structure GR (rets : List GRet) (Post : Value → GHeap → Prop) (fr : Fr) (H : GHeap) : Prop where
  ok : ∃ l, gresults fr H rets = some l ∧ Post (gone l) H
variable {a b : GCode} {ks : List Kt} {R : Fr → GHeap → Prop} {fr : Fr} {H : GHeap} {id i : Nat} {I : Fr → GHeap → Prop}
theorem gpop_ret : ∀ (ks : List Kt), R fr H → gpop call R ks .ret fr H
  | [], h => h
  | .seq _ :: ks, h => gpop_ret ks h
  | .blk _ :: ks, h => gpop_ret ks h
  | .inv _ :: ks, h => gpop_ret ks h
theorem GW_seq (h : GW call a (.seq b :: ks) R fr H) : GW call (.seq a b) ks R fr H := by
  refine ⟨gwp_seq (gwp_mono h.ok fun e fr H h => ?_)⟩
  cases e <;> exact h
theorem GW_block (h : GW call a (.blk id :: ks) R fr H) : GW call (.block id a) ks R fr H := by
  refine ⟨gwp_block (gwp_mono h.ok fun e fr H h => ?_)⟩
  cases e <;> exact h
theorem GW_skip (h : GN call ks R fr H) : GW call .skip ks R fr H := ⟨gwp_skip h.ok⟩
theorem GW_exit (h : GX call id ks R fr H) : GW call (.exit id) ks R fr H := ⟨gwp_exit h.ok⟩
theorem GW_ret (h : R fr H) : GW call .ret ks R fr H := ⟨gwp_ret (gpop_ret ks h)⟩
theorem GN_seq (h : GW call b ks R fr H) : GN call (.seq b :: ks) R fr H := ⟨h.ok⟩
theorem GN_blk (h : GN call ks R fr H) : GN call (.blk id :: ks) R fr H := ⟨h.ok⟩
theorem GN_inv (h : I fr H) : GN call (.inv I :: ks) R fr H := ⟨h⟩
theorem GN_nil (h : R fr H) : GN call [] R fr H := ⟨h⟩
theorem GX_seq (h : GX call id ks R fr H) : GX call id (.seq b :: ks) R fr H := ⟨h.ok⟩
theorem GX_inv (h : GX call id ks R fr H) : GX call id (.inv I :: ks) R fr H := ⟨h.ok⟩
theorem GX_blk (h : GN call ks R fr H) : GX call id (.blk id :: ks) R fr H := ⟨by
  show (if id = id then _ else _)
  rw [if_pos rfl]; exact h.ok⟩
theorem GX_up (hi : Nat.beq id i = false) (h : GX call id ks R fr H) : GX call id (.blk i :: ks) R fr H := ⟨by
  show (if id = i then _ else _)
  rw [if_neg (Nat.ne_of_beq_eq_false hi)]; exact h.ok⟩
theorem GW_line {l : List GOper} (h : Gw (gdo call) l (GN call ks R) fr H) : GW call (.line l) ks R fr H := by
  refine ⟨gwp_line ?_⟩
  have key : ∀ (l : List GOper) fr H, gws (gdo call) l (GN call ks R) fr H → gws (gdo call) l (gpop call R ks .normal) fr H := by
    intro l
    induction l with
    | nil => intro fr H h; exact h.ok
    | cons o r ih =>
      intro fr H h
      simp only [gws] at h ⊢
      cases hw : gwants fr o.guard with
      | none => rw [hw] at h; exact h
      | some t =>
        rw [hw] at h
        refine ⟨fun ht => ?_, fun ht => ih _ _ (h.2 ht)⟩
        have h := h.1 ht
        cases hr : gdo call fr H o.op with
        | none => rw [hr] at h; exact h
        | some x => rw [hr] at h; exact ih _ _ h
  exact key _ _ _ h.ok
/-- operations in a row behind what came in any order -/
def qrow (l : List (Bool × GOper)) : Option (List GOper) :=
  match l with
  | [] => some []
  | (false, o) :: r => (qrow r).map (o :: ·)
  | (true, _) :: _ => none
theorem gwq_of_gws : ∀ {l : List (Bool × GOper)} {l' : List GOper} {K : Fr → GHeap → Prop} {fr : Fr} {H : GHeap}, qrow l = some l' → gws (gdo call) l' K fr H → gwq call l K fr H
  | [], l', K, fr, H, hq, h => by cases hq; exact h
  | (false, o) :: r, l', K, fr, H, hq, h => by
    simp only [qrow, Option.map_eq_some_iff] at hq
    obtain ⟨l2, h2, rfl⟩ := hq
    simp only [gws] at h
    simp only [gwq]
    cases hw : gwants fr o.guard with
    | none => rw [hw] at h; exact h
    | some t =>
      rw [hw] at h
      refine ⟨fun ht => ⟨fun e => (by cases e), ?_⟩, fun ht => gwq_of_gws h2 (h.2 ht)⟩
      have h := h.1 ht
      cases hr : gdo call fr H o.op with
      | none => rw [hr] at h; exact h
      | some x => rw [hr] at h; exact gwq_of_gws h2 h
  | (true, o) :: r, l', K, fr, H, hq, h => by cases hq
theorem gws_mono {run : Fr → GHeap → GOp → Option (Value × GHeap)} {K K' : Fr → GHeap → Prop} (hk : ∀ fr H, K fr H → K' fr H) : ∀ (l : List GOper) fr H, gws run l K fr H → gws run l K' fr H := by
  intro l
  induction l with
  | nil => intro fr H h; exact hk _ _ h
  | cons o r ih =>
    intro fr H h
    simp only [gws] at h ⊢
    cases hw : gwants fr o.guard with
    | none => rw [hw] at h; exact h
    | some t =>
      rw [hw] at h
      refine ⟨fun ht => ?_, fun ht => ih _ _ (h.2 ht)⟩
      have h := h.1 ht
      cases hr : run fr H o.op with
      | none => rw [hr] at h; exact h
      | some x => rw [hr] at h; exact ih _ _ h
theorem GW_any {pre l : List GOper} {post : List (Bool × GOper)} (hq : qrow post = some l) (h : Gw (gdoM call) pre (Gw (gdo call) l (GN call ks R)) fr H) : GW call (.any [] pre post) ks R fr H := by
  refine ⟨gwp_any (gws_mono (fun fr H h => gwq_of_gws hq (gws_mono (fun fr H h => h.ok) l fr H h.ok)) pre fr H h.ok)⟩
structure Gc (x : Option Value) (A B : Prop) : Prop where
  ok : ∃ t, x = some (.bool t) ∧ (t = true → A) ∧ (t = false → B)
theorem Gc_some {t : Bool} {A B : Prop} (h1 : t = true → A) (h2 : t = false → B) : Gc (some (.bool t)) A B := ⟨t, rfl, h1, h2⟩
theorem Gc_true {A B : Prop} (h1 : A) : Gc (some (.bool true)) A B := ⟨true, rfl, fun _ => h1, fun e => by cases e⟩
theorem Gc_false {A B : Prop} (h1 : B) : Gc (some (.bool false)) A B := ⟨false, rfl, fun e => (by cases e), fun _ => h1⟩
theorem GW_cond {n : Nat} (h : ∀ A B : Prop, (GW call a ks R (fr.set n (.bool true)) H → A) → (GW call b ks R (fr.set n (.bool false)) H → B) → Gc (fr.get n) A B) : GW call (.cond (.t n) a b) ks R fr H := by
  obtain ⟨t, h1, h2, h3⟩ := (h _ _ id id).ok
  refine ⟨gwp_cond (t := t) h1 (fun ht => ?_) (fun ht => ?_)⟩
  · subst ht; have := (h2 rfl).ok; rwa [Tr.set_self h1] at this
  · subst ht; have := (h3 rfl).ok; rwa [Tr.set_self h1] at this
theorem GW_loop {a : GCode} (I : Nat → Fr → GHeap → Prop) (hs : ∀ k fr H, I k fr H → ∀ J : Fr → GHeap → Prop, (∀ fr H, (∃ j, j < k ∧ I j fr H) → J fr H) → GW call a (.inv J :: ks) R fr H) (k : Nat) (h : I k fr H) : GW call (.loop a) ks R fr H := by
  refine ⟨gwp_loop I (fun k fr H hI => gwp_mono (hs k fr H hI _ fun _ _ h => h).ok fun e fr H h => ?_) k h⟩
  cases e <;> exact h

/-! ### rows -/
variable {run : Fr → GHeap → GOp → Option (Value × GHeap)} {r : List GOper} {K : Fr → GHeap → Prop} {op : GOp} {d g : Nat} {t : Bool}
theorem Gw_s (h : ∀ K' : Value → GHeap → Prop, (∀ v H', Gw run r K (fr.set d v) H' → K' v H') → G1 (run fr H op) K') : Gw run (⟨some d, none, op⟩ :: r) K fr H := by
  refine ⟨⟨fun _ => ?_, fun e => (by cases e)⟩⟩
  have h := (h _ fun _ _ h => h).ok
  show gone1 (run fr H op) _
  cases hr : run fr H op with
  | none => rw [hr] at h; exact h.elim
  | some x => rw [hr] at h; exact h.ok
theorem Gw_0 (h : ∀ K' : Value → GHeap → Prop, (∀ v H', Gw run r K fr H' → K' v H') → G1 (run fr H op) K') : Gw run (⟨none, none, op⟩ :: r) K fr H := by
  refine ⟨⟨fun _ => ?_, fun e => (by cases e)⟩⟩
  have h := (h _ fun _ _ h => h).ok
  show gone1 (run fr H op) _
  cases hr : run fr H op with
  | none => rw [hr] at h; exact h.elim
  | some x => rw [hr] at h; exact h.ok
theorem Gw_gs (h : ∀ A B : Prop, ((∀ K' : Value → GHeap → Prop, (∀ v H', Gw run r K ((fr.set g (.bool t)).set d v) H' → K' v H') → G1 (run (fr.set g (.bool t)) H op) K') → A) → (Gw run r K ((fr.set g (.bool !t)).set d undef) H → B) → Gc (fr.get g) A B) (ht : t = true) : Gw run (⟨some d, some (g, t), op⟩ :: r) K fr H := by
  subst ht
  obtain ⟨c, h1, h2, h3⟩ := (h _ _ id id).ok
  have hw : gwants fr (some (g, true)) = some c := by simp [gwants, h1]
  refine ⟨?_⟩
  simp only [gws]
  rw [hw]
  refine ⟨fun hc => ?_, fun hc => ?_⟩
  · subst hc
    have h := h2 rfl
    rw [Tr.set_self h1] at h
    have h := (h _ fun _ _ h => h).ok
    cases hr : run fr H op with
    | none => rw [hr] at h; exact h.elim
    | some x => rw [hr] at h; exact h.ok
  · subst hc
    have h := h3 rfl
    simp only [Bool.not_true] at h
    rw [Tr.set_self h1] at h
    exact h.ok
theorem Gw_gf (h : ∀ A B : Prop, (Gw run r K ((fr.set g (.bool true)).set d undef) H → A) → ((∀ K' : Value → GHeap → Prop, (∀ v H', Gw run r K ((fr.set g (.bool false)).set d v) H' → K' v H') → G1 (run (fr.set g (.bool false)) H op) K') → B) → Gc (fr.get g) A B) : Gw run (⟨some d, some (g, false), op⟩ :: r) K fr H := by
  obtain ⟨c, h1, h2, h3⟩ := (h _ _ id id).ok
  have hw : gwants fr (some (g, false)) = some (!c) := by simp [gwants, h1]
  refine ⟨?_⟩
  simp only [gws]
  rw [hw]
  refine ⟨fun hc => ?_, fun hc => ?_⟩
  · have hc : c = false := by cases c <;> simp_all
    subst hc
    have h := h3 rfl
    rw [Tr.set_self h1] at h
    have h := (h _ fun _ _ h => h).ok
    cases hr : run fr H op with
    | none => rw [hr] at h; exact h.elim
    | some x => rw [hr] at h; exact h.ok
  · have hc : c = true := by cases c <;> simp_all
    subst hc
    have h := h2 rfl
    rw [Tr.set_self h1] at h
    exact h.ok
theorem Gw_gt (h : ∀ A B : Prop, ((∀ K' : Value → GHeap → Prop, (∀ v H', Gw run r K ((fr.set g (.bool true)).set d v) H' → K' v H') → G1 (run (fr.set g (.bool true)) H op) K') → A) → (Gw run r K ((fr.set g (.bool false)).set d undef) H → B) → Gc (fr.get g) A B) : Gw run (⟨some d, some (g, true), op⟩ :: r) K fr H := Gw_gs h rfl
/-! a guard that is known, or one that parts the ways -/
structure Gd (x : Option Value) (A B C D : Prop) : Prop where
  ok : ∃ t, x = some (.bool t) ∧ (t = true → A ∨ C) ∧ (t = false → B ∨ D)
theorem Gd_true {A B C D : Prop} (h : A) : Gd (some (.bool true)) A B C D := ⟨true, rfl, fun _ => .inl h, fun e => by cases e⟩
theorem Gd_false {A B C D : Prop} (h : B) : Gd (some (.bool false)) A B C D := ⟨false, rfl, fun e => (by cases e), fun _ => .inl h⟩
theorem Gd_some {t : Bool} {A B C D : Prop} (h1 : t = true → C) (h2 : t = false → D) : Gd (some (.bool t)) A B C D := ⟨t, rfl, fun h => .inr (h1 h), fun h => .inr (h2 h)⟩
theorem Gw_dt (h : ∀ A B C D : Prop, ((∀ K' : Value → GHeap → Prop, (∀ v H', Gw run r K (fr.set d v) H' → K' v H') → G1 (run fr H op) K') → A) → (Gw run r K (fr.set d undef) H → B) →
    ((∀ K' : Value → GHeap → Prop, (∀ v H', Gw run r K ((fr.set g (.bool true)).set d v) H' → K' v H') → G1 (run (fr.set g (.bool true)) H op) K') → C) → (Gw run r K ((fr.set g (.bool false)).set d undef) H → D) → Gd (fr.get g) A B C D) : Gw run (⟨some d, some (g, true), op⟩ :: r) K fr H := by
  obtain ⟨t, h1, h2, h3⟩ := (h _ _ _ _ id id id id).ok
  refine Gw_gt fun A B hA hB => ⟨t, h1, fun ht => ?_, fun ht => ?_⟩
  · subst ht
    refine hA ?_
    rcases h2 rfl with h | h
    · rw [Tr.set_self h1]; exact h
    · exact h
  · subst ht
    refine hB ?_
    rcases h3 rfl with h | h
    · rw [Tr.set_self h1]; exact h
    · exact h
theorem Gw_df (h : ∀ A B C D : Prop, (Gw run r K (fr.set d undef) H → A) → ((∀ K' : Value → GHeap → Prop, (∀ v H', Gw run r K (fr.set d v) H' → K' v H') → G1 (run fr H op) K') → B) →
    (Gw run r K ((fr.set g (.bool true)).set d undef) H → C) → ((∀ K' : Value → GHeap → Prop, (∀ v H', Gw run r K ((fr.set g (.bool false)).set d v) H' → K' v H') → G1 (run (fr.set g (.bool false)) H op) K') → D) → Gd (fr.get g) A B C D) : Gw run (⟨some d, some (g, false), op⟩ :: r) K fr H := by
  obtain ⟨t, h1, h2, h3⟩ := (h _ _ _ _ id id id id).ok
  refine Gw_gf fun A B hA hB => ⟨t, h1, fun ht => ?_, fun ht => ?_⟩
  · subst ht
    refine hA ?_
    rcases h2 rfl with h | h
    · rw [Tr.set_self h1]; exact h
    · exact h
  · subst ht
    refine hB ?_
    rcases h3 rfl with h | h
    · rw [Tr.set_self h1]; exact h
    · exact h
theorem GW_cd {n : Nat} (h : ∀ A B C D : Prop, (GW call a ks R fr H → A) → (GW call b ks R fr H → B) → (GW call a ks R (fr.set n (.bool true)) H → C) → (GW call b ks R (fr.set n (.bool false)) H → D) → Gd (fr.get n) A B C D) : GW call (.cond (.t n) a b) ks R fr H := by
  obtain ⟨t, h1, h2, h3⟩ := (h _ _ _ _ id id id id).ok
  refine GW_cond fun A B hA hB => ⟨t, h1, fun ht => ?_, fun ht => ?_⟩
  · subst ht
    refine hA ?_
    rcases h2 rfl with h | h
    · rw [Tr.set_self h1]; exact h
    · exact h
  · subst ht
    refine hB ?_
    rcases h3 rfl with h | h
    · rw [Tr.set_self h1]; exact h
    · exact h
theorem Gw_nil (h : K fr H) : Gw run [] K fr H := ⟨h⟩
theorem G1_go {v : Value} {H' : GHeap} {K : Value → GHeap → Prop} (h : K v H') : G1 (some (v, H')) K := ⟨h⟩
theorem G1_ex {x : Option (Value × GHeap)} {Q K : Value → GHeap → Prop} (h : ∃ v H', x = some (v, H') ∧ Q v H') (k : ∀ v H', Q v H' → K v H') : G1 x K := by
  obtain ⟨v, H', rfl, hq⟩ := h
  exact ⟨k _ _ hq⟩
/-- where the order is open: the same, but for calls -/
theorem gdoM_gdo (h1 : writes op = false) (h2 : isCall op = false) : gdoM call fr H op = gdo call fr H op := by rw [gdoM_m h2, gdo_m h1 h2]
theorem GR_of {rets : List GRet} {Post : Value → GHeap → Prop} {x : Option (List Value)} (hx : gresults fr H rets = x) {l : List Value} (hl : x = some l) (h : Post (gone l) H) : GR rets Post fr H := ⟨l, hx.trans hl, h⟩
end
/-- a function's body -/
theorem gev_GW {G : FuncId → Option GEnt} {f : FuncId} {g : GFun} (hG : G f = some (.fn g)) {args : List Value} {H : GHeap} {R : Value → GHeap → Prop} (h : ∀ Post : Value → GHeap → Prop, (∀ v H', R v H' → Post v H') → GW (gev G) g.body [] (GR g.rets Post) (frameOf 0 args .nil) H) : ∃ v H', gev G f args H = some (v, H') ∧ R v H' := by
  refine gev_of hG (gwp_mono (h R fun _ _ h => h).ok fun e fr H h => ?_)
  cases e with
  | normal => exact h.ok
  | ret => exact h.ok
  | exit id => exact h
end Go.Gh
