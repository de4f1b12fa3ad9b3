/-
  Each operation's step, as an equation.
-/
import Derived.Test.YtfcbdkbdalbjmaaGhW
namespace Go.Gh
set_option linter.unusedVariables false
set_option linter.unusedSimpArgs false
open Go.RowKit

section
variable {call : GCall} {fr : Fr} {H : GHeap} {K : Value → GHeap → Prop}
theorem gbr_true {A B : Prop} : gbr (some true) A B = A := by simp [gbr]
theorem gbr_false {A B : Prop} : gbr (some false) A B = B := by simp [gbr]
theorem gbr_some {b : Bool} {A B : Prop} : gbr (some b) A B = ((b = true → A) ∧ (b = false → B)) := rfl
theorem gwants_none : gwants fr none = some true := rfl
theorem gwants_some {d : Nat} {b c : Bool} (h : fr.get d = some (.bool c)) : gwants fr (some (d, b)) = some (c == b) := by simp [gwants, h]
theorem gone1_some {v : Value} {H' : GHeap} : gone1 (some (v, H')) K = K v H' := rfl
theorem gdo_m {op : GOp} (h1 : writes op = false) (h2 : isCall op = false) : gdo call fr H op = (gopM fr H op).bind fun r => some (r.1, H.add r.2) := by
  unfold gdo
  split
  · simp [isCall] at h2
  · rw [if_neg (by simp [h1])]
    cases gopM fr H op <;> rfl
theorem gdo_w {op : GOp} (h1 : writes op = true) : gdo call fr H op = gopW fr H op := by
  unfold gdo
  split
  · simp [writes] at h1
  · rw [if_pos h1]
theorem gdoM_m {op : GOp} (h2 : isCall op = false) : gdoM call fr H op = (gopM fr H op).bind fun r => some (r.1, H.add r.2) := by
  unfold gdoM
  split
  · simp [isCall] at h2
  · cases gopM fr H op <;> rfl
theorem add_none : H.add none = H := rfl
theorem gd_move {x : GArg} : gdo call fr H (.move x) = (x.ev fr).bind fun v => some (v, H) := by rw [gdo_m rfl rfl]; simp only [gopM]; cases x.ev fr <;> rfl
theorem gd_pick {c a b : GArg} : gdo call fr H (.pick c a b) = match c.ev fr with
    | some (.bool t) => (if t then a.ev fr else b.ev fr).bind fun v => some (v, H)
    | _ => none := by
  rw [gdo_m rfl rfl]; simp only [gopM]
  generalize c.ev fr = cv
  split
  · rename_i t
    simp only
    generalize (if t = true then a.ev fr else b.ev fr) = r
    cases r <;> rfl
  · rename_i hne
    split
    · rename_i t
      exact absurd rfl (hne t)
    · rfl
theorem gd_alloc {z : List Value} : gdo call fr H (.alloc z) = some (.pointer (some ⟨H.len, 0, none⟩), H.add (some (.cells z 0 true))) := rfl
theorem gd_load {k : Option Nat} {a : GArg} : gdo call fr H (.load k a) = (a.ev fr).bind fun v => (gld k H v).bind fun r => some (r, H) := by
  rw [gdo_m rfl rfl]; simp only [gopM]; cases a.ev fr with
  | none => rfl
  | some v => simp only [Option.bind_some]; cases gld k H v <;> rfl
theorem gd_bin {op : BinOp} {e : Option EqK} {x y : GArg} : gdo call fr H (.bin op e x y) = (x.ev fr).bind fun a => (y.ev fr).bind fun b => (gbin op e a b).bind fun r => some (r, H) := by
  rw [gdo_m rfl rfl]; simp only [gopM]; cases x.ev fr with
  | none => rfl
  | some v =>
    simp only [Option.bind_some]
    cases y.ev fr with
    | none => rfl
    | some u => simp only [Option.bind_some]; cases gbin op e v u <;> rfl
theorem gd_fa {n : Nat} {x : GArg} : gdo call fr H (.fa n x) = (x.ev fr).bind fun v => (gadd n v).bind fun r => some (r, H) := by
  rw [gdo_m rfl rfl]; simp only [gopM]; cases x.ev fr with
  | none => rfl
  | some v => simp only [Option.bind_some]; cases gadd n v <;> rfl
theorem gd_ia {l : Option Nat} {n : Nat} {x i : GArg} : gdo call fr H (.ia l n x i) = (x.ev fr).bind fun v => (i.ev fr).bind fun j => (gia l n v j).bind fun r => some (r, H) := by
  rw [gdo_m rfl rfl]; simp only [gopM]; cases x.ev fr with
  | none => rfl
  | some v =>
    simp only [Option.bind_some]
    cases i.ev fr with
    | none => rfl
    | some u => simp only [Option.bind_some]; cases gia l n v u <;> rfl
theorem gd_len {s : Bool} {x : GArg} : gdo call fr H (.len s x) = (x.ev fr).bind fun v => (glen s v).bind fun r => some (r, H) := by
  rw [gdo_m rfl rfl]; simp only [gopM]; cases x.ev fr with
  | none => rfl
  | some v => simp only [Option.bind_some]; cases glen s v <;> rfl
theorem gd_store {k : Option Nat} {p x : GArg} : gdo call fr H (.store k p x) = (p.ev fr).bind fun p => (x.ev fr).bind fun v => (gst k H p v).bind fun H' => some (undef, H') := by
  rw [gdo_w rfl]; simp only [gopW]; cases p.ev fr with
  | none => rfl
  | some v =>
    simp only [Option.bind_some]
    cases x.ev fr with
    | none => rfl
    | some u => simp only [Option.bind_some]; cases gst k H v u <;> rfl
theorem gd_ix {q : Option (Nat × Nat × Option Nat)} {x i : GArg} : gdo call fr H (.ix q x i) = (x.ev fr).bind fun v => (i.ev fr).bind fun j => (gix q v j).bind fun r => some (r, H) := by
  rw [gdo_m rfl rfl]; simp only [gopM]; cases x.ev fr with
  | none => rfl
  | some v =>
    simp only [Option.bind_some]
    cases i.ev fr with
    | none => rfl
    | some u => simp only [Option.bind_some]; cases gix q v u <;> rfl
theorem gd_fld {o : Nat} {k : Option Nat} {x : GArg} : gdo call fr H (.fld o k x) = (x.ev fr).bind fun v => (gpart k o v).bind fun r => some (r, H) := by
  rw [gdo_m rfl rfl]; simp only [gopM]; cases x.ev fr with
  | none => rfl
  | some v => simp only [Option.bind_some]; cases gpart k o v <;> rfl
theorem gd_un {op : UnOp} {x : GArg} : gdo call fr H (.un op x) = (x.ev fr).bind fun a => (gun op a).bind fun r => some (r, H) := by
  rw [gdo_m rfl rfl]; simp only [gopM]; cases x.ev fr with
  | none => rfl
  | some v => simp only [Option.bind_some]; cases gun op v <;> rfl
theorem gd_cap {x : GArg} : gdo call fr H (.cap x) = (x.ev fr).bind fun v => (gcap v).bind fun r => some (r, H) := by
  rw [gdo_m rfl rfl]; simp only [gopM]; cases x.ev fr with
  | none => rfl
  | some v => simp only [Option.bind_some]; cases gcap v <;> rfl
theorem gd_ext {x : GArg} {k : Nat} {vs : Array Value} (h : x.ev fr = some (.tuple vs)) : gdo call fr H (.ext x k) = (vs[k]?).bind fun r => some (r, H) := by
  rw [gdo_m rfl rfl]; simp only [gopM, h, Option.bind_some]
  cases vs[k]? <;> rfl
theorem gd_conv {q : CvK} {x : GArg} : gdo call fr H (.conv q x) = (x.ev fr).bind fun v => (gconv q H v).bind fun r => some (r.1, H.add r.2) := by
  rw [gdo_m rfl rfl]; simp only [gopM]; cases x.ev fr <;> rfl
theorem gd_mk {z : List Value} {b u : Nat} {l c : GArg} : gdo call fr H (.mk z b u l c) = (l.ev fr).bind fun x => (c.ev fr).bind fun y => (gmake z b u H x y).bind fun r => some (r.1, H.add r.2) := by
  rw [gdo_m rfl rfl]; simp only [gopM]; cases l.ev fr with
  | none => rfl
  | some v =>
    simp only [Option.bind_some]
    cases c.ev fr <;> rfl
theorem gd_app {size bytes u : Nat} {s x : GArg} : gdo call fr H (.app size bytes u s x) = (s.ev fr).bind fun s => (x.ev fr).bind fun x => gapp size bytes u H s x := by
  rw [gdo_w rfl]; rfl
theorem gd_copy {size : Nat} {d x : GArg} : gdo call fr H (.copy size d x) = (d.ev fr).bind fun d => (x.ev fr).bind fun x => gcopy size H d x := by
  rw [gdo_w rfl]; rfl
theorem gd_next {x : GArg} : gdo call fr H (.next x) = (x.ev fr).bind (gnext H) := by
  rw [gdo_w rfl]; rfl
theorem gd_call {f : GArg} {xs : List GArg} : gdo call fr H (.call f xs) = (gtarget fr f xs).bind fun r => call r.1 r.2 H := rfl
theorem gd_fn {f : FuncId} {a b : List GArg} : gdo call fr H (.fn f a b) = (evs fr a).bind fun l => (evs fr b).bind fun m => some (.func (.func f) l.toArray m.toArray, H) := by
  rw [gdo_m rfl rfl]; simp only [gopM]; cases evs fr a with
  | none => rfl
  | some v =>
    simp only [Option.bind_some]
    cases evs fr b <;> rfl
theorem gd_nilc {x : GArg} {v : Value} (h : x.ev fr = some v) (hv : (∃ a, v = .pointer (some a)) ∨ ∃ f a b, v = .func (.func f) a b) : gdo call fr H (.nilc x) = some (v, H) := by
  rw [gdo_m rfl rfl]; simp only [gopM, h]
  rcases hv with ⟨a, rfl⟩ | ⟨f, a, b, rfl⟩ <;> rfl
theorem gb_lss {k : IntKind} {e : Option EqK} {a b : Int} : gbin .lss e (.int k a) (.int k b) = some (.bool (decide (a < b))) := by simp [gbin, gint]
theorem gb_gtr {k : IntKind} {e : Option EqK} {a b : Int} : gbin .gtr e (.int k a) (.int k b) = some (.bool (decide (b < a))) := by simp [gbin, gint]
theorem gb_leq {k : IntKind} {e : Option EqK} {a b : Int} : gbin .leq e (.int k a) (.int k b) = some (.bool (decide (a ≤ b))) := by simp [gbin, gint]
theorem gb_geq {k : IntKind} {e : Option EqK} {a b : Int} : gbin .geq e (.int k a) (.int k b) = some (.bool (decide (b ≤ a))) := by simp [gbin, gint]
theorem gb_add {k : IntKind} {e : Option EqK} {a b : Int} : gbin .add e (.int k a) (.int k b) = some (.int k (k.wrap (a + b))) := by simp [gbin, gint]
theorem gb_sub {k : IntKind} {e : Option EqK} {a b : Int} : gbin .sub e (.int k a) (.int k b) = some (.int k (k.wrap (a - b))) := by simp [gbin, gint]
theorem gb_eql {k : IntKind} {e : Option EqK} {a b : Int} : gbin .eql e (.int k a) (.int k b) = some (.bool (a == b)) := by simp [gbin, gint]
theorem gb_neq {k : IntKind} {e : Option EqK} {a b : Int} : gbin .neq e (.int k a) (.int k b) = some (.bool (a != b)) := by simp [gbin, gint]
theorem gia_sl {n : Nat} {b o L gc : Nat} {k : IntKind} {j : Int} (h0 : 0 ≤ j) (h1 : j < L) : gia none n (.slice (some ⟨b, o, none⟩) L gc) (.int k j) = some (.pointer (some ⟨b, o + j.toNat * n, none⟩)) := by simp [gia, h0, h1]
theorem gadd_ptr {n i o : Nat} : gadd n (.pointer (some ⟨i, o, none⟩)) = some (.pointer (some ⟨i, o + n, none⟩)) := rfl
theorem glen_sl {a : Option Addr} {n c : Nat} : glen false (.slice a n c) = some (.int .i64 n) := rfl
theorem glen_str {s : ByteArray} : glen true (.string s) = some (.int .i64 s.size) := rfl
end
/-! the rest out of sight, step by step -/
section
variable {run : Fr → GHeap → GOp → Option (Value × GHeap)} {fr : Fr} {H : GHeap} {r : List GOper} {K : Fr → GHeap → Prop}
theorem gone1_k {x : Option (Value × GHeap)} {K : Value → GHeap → Prop} (h : ∀ K' : Value → GHeap → Prop, (∀ v H', K v H' → K' v H') → gone1 x K') : gone1 x K := h K fun _ _ h => h
/-! the same in a form that nothing unfolds by itself -/
structure G1 (x : Option (Value × GHeap)) (K : Value → GHeap → Prop) : Prop where
  ok : gone1 x K
structure Gb (c : Option Bool) (A B : Prop) : Prop where
  ok : gbr c A B
theorem G1_some {v : Value} {H' : GHeap} {K : Value → GHeap → Prop} : G1 (some (v, H')) K = K v H' := propext ⟨fun h => h.ok, fun h => ⟨h⟩⟩
theorem Gb_true {A B : Prop} : Gb (some true) A B = A := propext ⟨fun h => h.ok.1 rfl, fun h => ⟨⟨fun _ => h, fun e => (by cases e)⟩⟩⟩
theorem Gb_false {A B : Prop} : Gb (some false) A B = B := propext ⟨fun h => h.ok.2 rfl, fun h => ⟨⟨fun e => (by cases e), fun _ => h⟩⟩⟩
structure Gw (run : Fr → GHeap → GOp → Option (Value × GHeap)) (l : List GOper) (K : Fr → GHeap → Prop) (fr : Fr) (H : GHeap) : Prop where
  ok : gws run l K fr H
theorem gw_nil (h : K fr H) : Gw run [] K fr H := ⟨h⟩
theorem gw_1 {o : GOper} (h : ∀ A B : Prop, ((G1 (run fr H o.op) fun v H' => Gw run r K (gput fr o.dst v) H') → A) → (Gw run r K (gput fr o.dst undef) H → B) → Gb (gwants fr o.guard) A B) : Gw run (o :: r) K fr H := by
  refine ⟨(h _ _ (fun h => ?_) fun h => h.ok).ok⟩
  have h := h.ok
  cases hr : run fr H o.op with
  | none => rw [hr] at h; exact h.elim
  | some x => rw [hr] at h; exact h.ok
theorem G1_k {x : Option (Value × GHeap)} {K : Value → GHeap → Prop} (h : ∀ K' : Value → GHeap → Prop, (∀ v H', K v H' → K' v H') → G1 x K') : G1 x K := h K fun _ _ h => h
theorem gwp_line1 {call : GCall} {l : List GOper} {Q : GExit → Fr → GHeap → Prop} (h : Gw (gdo call) l (Q .normal) fr H) : gwp call (.line l) Q fr H := gwp_line h.ok
end
end Go.Gh
