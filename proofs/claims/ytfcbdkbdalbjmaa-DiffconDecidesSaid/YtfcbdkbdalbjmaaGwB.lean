/-
  Walks: what is read and written in a ghost heap, as equations that simp can use.
-/
import Derived.Test.YtfcbdkbdalbjmaaGwA
namespace Go.Gh
set_option linter.unusedVariables false
set_option linter.unusedSimpArgs false
open Go.RowKit

section
variable {call : GCall} {fr : Fr} {H H' H0 : GHeap}
/-! ### the steps that were lacking -/
theorem gd_lenOf {n : Nat} : gdo call fr H (.lenOf n) = some (.int .i64 n, H) := rfl
theorem gd_min {x : GArg} {r : List GArg} : gdo call fr H (.min x r) = (x.ev fr).bind fun v => (evs fr r).bind fun l => (gfold gmin2 l v).bind fun v => some (v, H) := by
  rw [gdo_m rfl rfl]; simp only [gopM]; cases x.ev fr with
  | none => rfl
  | some v =>
    simp only [Option.bind_some]
    cases evs fr r with
    | none => rfl
    | some u => simp only [Option.bind_some]; cases gfold gmin2 u v <;> rfl
theorem gd_max {x : GArg} {r : List GArg} : gdo call fr H (.max x r) = (x.ev fr).bind fun v => (evs fr r).bind fun l => (gfold gmax2 l v).bind fun v => some (v, H) := by
  rw [gdo_m rfl rfl]; simp only [gopM]; cases x.ev fr with
  | none => rfl
  | some v =>
    simp only [Option.bind_some]
    cases evs fr r with
    | none => rfl
    | some u => simp only [Option.bind_some]; cases gfold gmax2 u v <;> rfl
theorem gd_slice {q : SlK} {x : GArg} {lo hi mx : Option GArg} : gdo call fr H (.slice q x lo hi mx) = (x.ev fr).bind fun v => (evOpt fr lo).bind fun l => (evOpt fr hi).bind fun h => (evOpt fr mx).bind fun m => (gslice q H v l h m).bind fun r => some (r, H) := by
  rw [gdo_m rfl rfl]; simp only [gopM]; cases x.ev fr with
  | none => rfl
  | some v =>
    simp only [Option.bind_some]
    cases evOpt fr lo with
    | none => rfl
    | some l =>
      simp only [Option.bind_some]
      cases evOpt fr hi with
      | none => rfl
      | some h =>
        simp only [Option.bind_some]
        cases evOpt fr mx with
        | none => rfl
        | some m => simp only [Option.bind_some]; cases gslice q H v l h m <;> rfl
theorem gd_build {z : List Value} {ps : List (Nat × Nat × GArg)} : gdo call fr H (.build z ps) = (evParts fr ps).bind fun l => (fillL z l).bind fun cs => some (.agg cs.toArray, H) := by
  rw [gdo_m rfl rfl]; simp only [gopM]; cases evParts fr ps with
  | none => rfl
  | some v => simp only [Option.bind_some]; cases fillL z v <;> rfl
theorem gd_buildSl {u n : Nat} {z : List Value} {ps : List (Nat × Nat × GArg)} : gdo call fr H (.buildSl u n z ps) = (evParts fr ps).bind fun l => (fillL (zeros z n) l).bind fun cs => some (.slice (some ⟨H.len, 0, none⟩) n (n + 1), H.add (some (.cells cs u true))) := by
  rw [gdo_m rfl rfl]; simp only [gopM]; cases evParts fr ps with
  | none => rfl
  | some v => simp only [Option.bind_some]; cases fillL (zeros z n) v <;> rfl
theorem gd_box {x : GArg} : gdo call fr H (.box x) = (x.ev fr).bind fun v => if v.cells.all flatV then some (.pointer (some ⟨H.len, 0, none⟩), H.add (some (.cells v.cells.toList 0 true))) else none := by
  rw [gdo_m rfl rfl]; simp only [gopM]; cases x.ev fr with
  | none => rfl
  | some v =>
    simp only [Option.bind_some]
    split <;> rfl
theorem gd_ext' {x : GArg} {k : Nat} : gdo call fr H (.ext x k) = (x.ev fr).bind fun v => match v with
    | .tuple vs => (vs[k]?).bind fun r => some (r, H)
    | _ => none := by
  rw [gdo_m rfl rfl]; simp only [gopM]; cases x.ev fr with
  | none => rfl
  | some v =>
    cases v with
    | tuple vs => simp only [Option.bind_some]; generalize vs[k]? = z; cases z <;> rfl
    | _ => rfl
theorem gd_nilc' {x : GArg} : gdo call fr H (.nilc x) = (x.ev fr).bind fun v => match v with
    | .pointer (some _) => some (v, H)
    | .func (.func _) _ _ => some (v, H)
    | _ => none := by
  rw [gdo_m rfl rfl]; simp only [gopM]; cases x.ev fr with
  | none => rfl
  | some v =>
    cases v with
    | pointer a => cases a <;> rfl
    | func a b c => cases a <;> rfl
    | _ => rfl
theorem gd_rng {x : GArg} : gdo call fr H (.rng x) = (x.ev fr).bind fun v => match v with
    | .string s => some (.pointer (some ⟨H.len, 0, none⟩), H.add (some (.iter s 0)))
    | _ => none := by
  rw [gdo_m rfl rfl]; simp only [gopM]; cases x.ev fr with
  | none => rfl
  | some v => cases v <;> rfl
theorem gd_appM {size bytes u : Nat} {s x : GArg} : gdo call fr H (.appM size bytes u s x) = (s.ev fr).bind fun s => (x.ev fr).bind fun x => (gappM size bytes u H s x).bind fun r => some (r.1, H.add r.2) := by
  rw [gdo_m rfl rfl]; simp only [gopM]; cases s.ev fr with
  | none => rfl
  | some v =>
    simp only [Option.bind_some]
    cases x.ev fr <;> rfl
/-! where the order is open -/
theorem gM_move {x : GArg} : gdoM call fr H (.move x) = gdo call fr H (.move x) := gdoM_gdo rfl rfl
theorem gM_pick {c a b : GArg} : gdoM call fr H (.pick c a b) = gdo call fr H (.pick c a b) := gdoM_gdo rfl rfl
theorem gM_alloc {z : List Value} : gdoM call fr H (.alloc z) = gdo call fr H (.alloc z) := gdoM_gdo rfl rfl
theorem gM_load {k : Option Nat} {a : GArg} : gdoM call fr H (.load k a) = gdo call fr H (.load k a) := gdoM_gdo rfl rfl
theorem gM_bin {op : BinOp} {e : Option EqK} {x y : GArg} : gdoM call fr H (.bin op e x y) = gdo call fr H (.bin op e x y) := gdoM_gdo rfl rfl
theorem gM_un {op : UnOp} {x : GArg} : gdoM call fr H (.un op x) = gdo call fr H (.un op x) := gdoM_gdo rfl rfl
theorem gM_fa {n : Nat} {x : GArg} : gdoM call fr H (.fa n x) = gdo call fr H (.fa n x) := gdoM_gdo rfl rfl
theorem gM_ia {l : Option Nat} {n : Nat} {x i : GArg} : gdoM call fr H (.ia l n x i) = gdo call fr H (.ia l n x i) := gdoM_gdo rfl rfl
theorem gM_len {s : Bool} {x : GArg} : gdoM call fr H (.len s x) = gdo call fr H (.len s x) := gdoM_gdo rfl rfl
theorem gM_lenOf {n : Nat} : gdoM call fr H (.lenOf n) = gdo call fr H (.lenOf n) := gdoM_gdo rfl rfl
theorem gM_ix {q : Option (Nat × Nat × Option Nat)} {x i : GArg} : gdoM call fr H (.ix q x i) = gdo call fr H (.ix q x i) := gdoM_gdo rfl rfl
theorem gM_fld {o : Nat} {k : Option Nat} {x : GArg} : gdoM call fr H (.fld o k x) = gdo call fr H (.fld o k x) := gdoM_gdo rfl rfl
theorem gM_cap {x : GArg} : gdoM call fr H (.cap x) = gdo call fr H (.cap x) := gdoM_gdo rfl rfl
theorem gM_ext {x : GArg} {k : Nat} : gdoM call fr H (.ext x k) = gdo call fr H (.ext x k) := gdoM_gdo rfl rfl
theorem gM_conv {q : CvK} {x : GArg} : gdoM call fr H (.conv q x) = gdo call fr H (.conv q x) := gdoM_gdo rfl rfl
theorem gM_mk {z : List Value} {b u : Nat} {l c : GArg} : gdoM call fr H (.mk z b u l c) = gdo call fr H (.mk z b u l c) := gdoM_gdo rfl rfl
theorem gM_fn {f : FuncId} {a b : List GArg} : gdoM call fr H (.fn f a b) = gdo call fr H (.fn f a b) := gdoM_gdo rfl rfl
theorem gM_min {x : GArg} {r : List GArg} : gdoM call fr H (.min x r) = gdo call fr H (.min x r) := gdoM_gdo rfl rfl
theorem gM_max {x : GArg} {r : List GArg} : gdoM call fr H (.max x r) = gdo call fr H (.max x r) := gdoM_gdo rfl rfl
theorem gM_slice {q : SlK} {x : GArg} {lo hi mx : Option GArg} : gdoM call fr H (.slice q x lo hi mx) = gdo call fr H (.slice q x lo hi mx) := gdoM_gdo rfl rfl
theorem gM_build {z : List Value} {ps : List (Nat × Nat × GArg)} : gdoM call fr H (.build z ps) = gdo call fr H (.build z ps) := gdoM_gdo rfl rfl
theorem gM_buildSl {u n : Nat} {z : List Value} {ps : List (Nat × Nat × GArg)} : gdoM call fr H (.buildSl u n z ps) = gdo call fr H (.buildSl u n z ps) := gdoM_gdo rfl rfl
theorem gM_box {x : GArg} : gdoM call fr H (.box x) = gdo call fr H (.box x) := gdoM_gdo rfl rfl
theorem gM_nilc {x : GArg} : gdoM call fr H (.nilc x) = gdo call fr H (.nilc x) := gdoM_gdo rfl rfl
theorem gM_rng {x : GArg} : gdoM call fr H (.rng x) = gdo call fr H (.rng x) := gdoM_gdo rfl rfl
theorem gM_appM {size bytes u : Nat} {s x : GArg} : gdoM call fr H (.appM size bytes u s x) = gdo call fr H (.appM size bytes u s x) := gdoM_gdo rfl rfl
/-- a call -/
theorem G1_call {f : GArg} {xs : List GArg} {r : FuncId × List Value} {Q K : Value → GHeap → Prop} (ht : gtarget fr f xs = some r) (h : ∃ v H', call r.1 r.2 H = some (v, H') ∧ Q v H') (k : ∀ v H', Q v H' → K v H') : G1 (gdo call fr H (.call f xs)) K := by
  obtain ⟨v, H', h1, hq⟩ := h
  rw [gd_call, ht]
  simp only [Option.bind_some]
  rw [h1]
  exact ⟨k _ _ hq⟩
def GHeap.up (H : GHeap) : GHeap := ⟨H.t, H.len, H.len⟩
def GHeap.down (H' : GHeap) (l : Nat) : GHeap := ⟨H'.t, H'.len, l⟩
theorem G1_callM {f : GArg} {xs : List GArg} {r : FuncId × List Value} {Q K : Value → GHeap → Prop} (ht : gtarget fr f xs = some r) (h : ∃ v H', call r.1 r.2 H.up = some (v, H') ∧ Q v H') (k : ∀ v H', Q v H' → K v (H'.down H.lim)) : G1 (gdoM call fr H (.call f xs)) K := by
  obtain ⟨v, H', h1, hq⟩ := h
  have : gdoM call fr H (.call f xs) = some (v, H'.down H.lim) := by
    simp only [gdoM, ht, Option.bind_some]
    rw [show call r.1 r.2 ⟨H.t, H.len, H.len⟩ = some (v, H') from h1]; rfl
  rw [this]
  exact ⟨k _ _ hq⟩

/-! ### reading -/
def GHeap.rd (H : GHeap) (i o : Nat) : Option Value := (H.cs i).bind fun cs => cs[o]?
def GHeap.rdn (H : GHeap) (i o n : Nat) : Option Value := (H.cs i).bind fun cs => if o + n ≤ cs.length then some (.agg ((cs.drop o).take n).toArray) else none
theorem gld_1 {i o : Nat} : gld none H (.pointer (some ⟨i, o, none⟩)) = H.rd i o := by
  simp only [gld, GHeap.rd]; cases H.cs i <;> rfl
theorem gld_n {i o n : Nat} : gld (some n) H (.pointer (some ⟨i, o, none⟩)) = H.rdn i o n := by
  simp only [gld, GHeap.rdn]; cases H.cs i <;> rfl
theorem len_put {i : Nat} {o : GObj} : (H.put i o).len = H.len := rfl
theorem len_add {o : GObj} : (H.add (some o)).len = H.len + 1 := rfl
theorem lim_put {i : Nat} {o : GObj} : (H.put i o).lim = H.lim := rfl
theorem lim_add {o : GObj} : (H.add (some o)).lim = H.lim := rfl
theorem cs_put_same {i : Nat} {cs : List Value} {u : Nat} {b : Bool} : (H.put i (.cells cs u b)).cs i = some cs := by rw [cs_put, if_pos rfl]; rfl
theorem cs_put_ne {i j : Nat} {o : GObj} (h : i ≠ j) : (H.put i o).cs j = H.cs j := by rw [cs_put, if_neg h]
theorem cs_add_eq {j : Nat} {cs : List Value} {u : Nat} {b : Bool} (h : H.len = j) : (H.add (some (.cells cs u b))).cs j = some cs := by rw [cs_add, if_pos h]; rfl
theorem cs_add_ne {j : Nat} {o : GObj} (h : H.len ≠ j) : (H.add (some o)).cs j = H.cs j := by rw [cs_add, if_neg h]
theorem rd_put_same {i o : Nat} {cs : List Value} {u : Nat} {b : Bool} : (H.put i (.cells cs u b)).rd i o = cs[o]? := by simp [GHeap.rd, cs_put_same]
theorem rd_put_ne {i j o : Nat} {x : GObj} (h : i ≠ j) : (H.put i x).rd j o = H.rd j o := by simp [GHeap.rd, cs_put_ne h]
theorem rd_add_eq {j o : Nat} {cs : List Value} {u : Nat} {b : Bool} (h : H.len = j) : (H.add (some (.cells cs u b))).rd j o = cs[o]? := by simp [GHeap.rd, cs_add_eq h]
theorem rd_add_ne {j o : Nat} {x : GObj} (h : H.len ≠ j) : (H.add (some x)).rd j o = H.rd j o := by simp [GHeap.rd, cs_add_ne h]
theorem rdn_put_ne {i j o n : Nat} {x : GObj} (h : i ≠ j) : (H.put i x).rdn j o n = H.rdn j o n := by simp [GHeap.rdn, cs_put_ne h]
theorem rdn_add_ne {j o n : Nat} {x : GObj} (h : H.len ≠ j) : (H.add (some x)).rdn j o n = H.rdn j o n := by simp [GHeap.rdn, cs_add_ne h]
theorem rdn_put_all {i n : Nat} {cs : List Value} {u : Nat} {b : Bool} (h : cs.length = n) : (H.put i (.cells cs u b)).rdn i 0 n = some (.agg cs.toArray) := by simp [GHeap.rdn, cs_put_same, ← h]
theorem rdn_add_all {j n : Nat} {cs : List Value} {u : Nat} {b : Bool} (h : H.len = j) (h2 : cs.length = n) : (H.add (some (.cells cs u b))).rdn j 0 n = some (.agg cs.toArray) := by simp [GHeap.rdn, cs_add_eq h, ← h2]
theorem Same.rd (h : Same H H') {i o : Nat} (hi : i < H.len) : H'.rd i o = H.rd i o := by simp only [GHeap.rd, h.cs hi]
theorem Same.rdn (h : Same H H') {i o n : Nat} (hi : i < H.len) : H'.rdn i o n = H.rdn i o n := by simp only [GHeap.rdn, h.cs hi]
/-! ### writing -/
theorem flatV_int {k : IntKind} {n : Int} : flatV (.int k n) = true := by simp [flatV]
theorem flatV_bool {b : Bool} : flatV (.bool b) = true := by simp [flatV]
theorem flatV_str {s : ByteArray} : flatV (.string s) = true := by simp [flatV]
theorem flatV_ptr {a : Option Addr} : flatV (.pointer a) = true := by simp [flatV]
theorem flatV_sl {a : Option Addr} {n c : Nat} : flatV (.slice a n c) = true := by simp [flatV]
def gset (cs : List Value) (o : Nat) (v : Value) : Option (List Value) := if o < cs.length ∧ flatV v = true then some (cs.set o v) else none
theorem gset_ok {cs : List Value} {o : Nat} {v : Value} (h1 : o < cs.length) (h2 : flatV v = true) : gset cs o v = some (cs.set o v) := if_pos ⟨h1, h2⟩
def gsetn (cs : List Value) (o n : Nat) : Value → Option (List Value)
  | .agg vs => if vs.size = n ∧ o + n ≤ cs.length ∧ vs.all flatV = true then some (cs.take o ++ vs.toList ++ cs.drop (o + n)) else none
  | _ => none
theorem gsetn_all {cs : List Value} {n : Nat} {vs : Array Value} (h1 : cs.length = n) (h2 : vs.size = n) (h3 : vs.toList.all flatV = true) : gsetn cs 0 n (.agg vs) = some vs.toList := by
  rw [Array.all_toList] at h3
  simp only [gsetn]
  rw [if_pos ⟨h2, by omega, h3⟩]
  simp [← h1]
theorem gsetn_ok {cs : List Value} {o n : Nat} {vs : Array Value} (h1 : o + n ≤ cs.length) (h2 : vs.size = n) (h3 : vs.toList.all flatV = true) : gsetn cs o n (.agg vs) = some (cs.take o ++ vs.toList ++ cs.drop (o + n)) := by
  rw [Array.all_toList] at h3
  simp only [gsetn]
  rw [if_pos ⟨h2, h1, h3⟩]
theorem gst_1 {i o : Nat} {v : Value} : gst none H (.pointer (some ⟨i, o, none⟩)) v = (H.mine i).bind fun c => (gset c.1 o v).bind fun cs => some (H.put i (.cells cs c.2 true)) := by
  simp only [gst]
  cases H.mine i with
  | none => rfl
  | some c => simp only [Option.bind_some, gset]; split <;> rfl
theorem gst_n {i o n : Nat} {v : Value} : gst (some n) H (.pointer (some ⟨i, o, none⟩)) v = (H.mine i).bind fun c => (gsetn c.1 o n v).bind fun cs => some (H.put i (.cells cs c.2 true)) := by
  simp only [gst]
  cases H.mine i with
  | none => rfl
  | some c =>
    simp only [Option.bind_some]
    cases v <;> simp only [gsetn, Option.bind_none]
    split <;> rfl
theorem mine_put_same {i : Nat} {cs : List Value} {u : Nat} (h : H.lim ≤ i) : (H.put i (.cells cs u true)).mine i = some (cs, u) := by
  simp only [GHeap.mine, lim_put, h, if_true, obj_put]
theorem mine_put_ne {i j : Nat} {o : GObj} (h : i ≠ j) : (H.put i o).mine j = H.mine j := by
  simp only [GHeap.mine, lim_put, obj_put, if_neg h]
theorem mine_add_eq {j : Nat} {cs : List Value} {u : Nat} (h : H.len = j) (h2 : H.lim ≤ j) : (H.add (some (.cells cs u true))).mine j = some (cs, u) := by
  simp only [GHeap.mine, lim_add, h2, if_true, obj_add, if_pos h]
theorem mine_add_ne {j : Nat} {o : GObj} (h : H.len ≠ j) : (H.add (some o)).mine j = H.mine j := by
  simp only [GHeap.mine, lim_add, obj_add, if_neg h]
theorem Same.mine (h : Same H H') {i : Nat} (hi : i < H.len) : H'.mine i = H.mine i := by simp only [GHeap.mine, h.lim, h.obj i hi]
theorem mine_obj {i : Nat} {c : List Value × Nat} (h : H.mine i = some c) : H.lim ≤ i ∧ H.obj i = some (.cells c.1 c.2 true) := by
  simp only [GHeap.mine] at h
  split at h
  · rename_i hl
    split at h
    · rename_i e; cases h; exact ⟨hl, e⟩
    · cases h
  · cases h
theorem mine_rd {i o : Nat} {c : List Value × Nat} (h : H.mine i = some c) : H.rd i o = c.1[o]? := by
  simp only [GHeap.rd, GHeap.cs, (mine_obj h).2, Option.bind_some]
theorem mine_cs {i : Nat} {c : List Value × Nat} (h : H.mine i = some c) : H.cs i = some c.1 := by
  simp only [GHeap.cs, (mine_obj h).2]
theorem mine_lt {i : Nat} {c : List Value × Nat} (hw : H.wf) (h : H.mine i = some c) : i < H.len := (hw.2 i).1 (by rw [(mine_obj h).2]; rfl)
/-- one object written anew -/
theorem Same.put_both {i : Nat} {o o' : GObj} (h : Same (H.put i o) H') (hi : i < H.len) : Same (H.put i o') (H'.put i o') := by
  have hlt : i < H'.len := Nat.lt_of_lt_of_le hi h.len
  refine ⟨h.lim, h.len, fun j hj => ?_, ⟨h.wf.1, fun j => ?_⟩⟩
  · rw [obj_put, obj_put]
    by_cases e : i = j
    · rw [if_pos e, if_pos e]
    · rw [if_neg e, if_neg e, h.obj j hj, obj_put, if_neg e]
  · rw [obj_put]
    by_cases e : i = j
    · subst e; simp; exact hlt
    · rw [if_neg e]; exact h.wf.2 j
theorem wf_put (hw : H.wf) {i : Nat} (hi : i < H.len) (o : GObj) : (H.put i o).wf := by
  refine ⟨hw.1, fun j => ?_⟩
  rw [obj_put]
  by_cases e : i = j
  · subst e; simp; exact hi
  · rw [if_neg e]; exact hw.2 j
theorem put_self {i : Nat} {o : GObj} (h : H.obj i = some o) : H.put i o = H := by
  unfold GHeap.put
  rw [Tr.set_self (show H.t.get i = some o from h)]

/-! ### slices -/
def blk : Value → Nat
  | .slice (some a) _ _ | .pointer (some a) => a.block
  | _ => 0
def ofs : Value → Nat
  | .slice (some a) _ _ | .pointer (some a) => a.off
  | _ => 0
theorem blk_sl {i o n c : Nat} : blk (.slice (some ⟨i, o, none⟩) n c) = i := rfl
theorem ofs_sl {i o n c : Nat} : ofs (.slice (some ⟨i, o, none⟩) n c) = o := rfl
/-- a slice of n elements -/
def IsSl (v : Value) (n : Nat) : Prop := ∃ a gc, v = .slice a n gc ∧ (0 < n → ∃ i o, a = some ⟨i, o, none⟩)
theorem IsSl.len {v : Value} {n : Nat} (h : IsSl v n) : glen false v = some (.int .i64 n) := by obtain ⟨a, gc, rfl, _⟩ := h; rfl
theorem IsSl.ia {v : Value} {n size : Nat} {k : IntKind} {j : Int} (h : IsSl v n) (h0 : 0 ≤ j) (h1 : j < n) : gia none size v (.int k j) = some (.pointer (some ⟨blk v, ofs v + j.toNat * size, none⟩)) := by
  obtain ⟨a, gc, rfl, h3⟩ := h
  obtain ⟨i, o, rfl⟩ := h3 (by omega)
  simp [gia, h0, h1, blk, ofs]
theorem GRd.isSl {size n : Nat} {v : Value} {xs : List Value} (h : GRd H size v n xs) : IsSl v n := by
  obtain ⟨_, a, gc, h2, h3⟩ := h
  exact ⟨a, gc, h2, fun hn => (h3 hn).imp fun i h => h.imp fun o h => h.choose_spec.1⟩
theorem GRd.lt {size n : Nat} {v : Value} {xs : List Value} (h : GRd H size v n xs) (hn : 0 < n) : blk v < H.len := by
  obtain ⟨_, a, gc, rfl, h3⟩ := h
  obtain ⟨i, o, cs, rfl, h4, _⟩ := h3 hn
  exact h4
theorem GRd.rd {size n : Nat} {v : Value} {xs : List Value} (h : GRd H size v n xs) {c : Nat} (hc : c < xs.length) : H.rd (blk v) (ofs v + c) = xs[c]? := by
  obtain ⟨hl, a, gc, rfl, h3⟩ := h
  obtain ⟨i, o, cs, rfl, h4, h5, h6⟩ := h3 (by rcases Nat.eq_zero_or_pos n with h | h; · subst h; omega
                                               · exact h)
  simp only [GHeap.rd, blk, ofs, h5, Option.bind_some]
  have := List.getElem?_eq_getElem hc
  rw [this]
  exact h6 _ _ this
theorem GRd.rdn {size n : Nat} {v : Value} {xs : List Value} (h : GRd H size v n xs) (hs : 0 < size) {c m : Nat} (hm : 0 < m) (hc : c + m ≤ xs.length) : H.rdn (blk v) (ofs v + c) m = some (.agg ((xs.drop c).take m).toArray) := by
  obtain ⟨hl, a, gc, rfl, h3⟩ := h
  obtain ⟨i, o, cs, rfl, h4, h5, h6⟩ := h3 (by rcases Nat.eq_zero_or_pos n with h | h; · subst h; omega
                                               · exact h)
  obtain ⟨e1, e2⟩ := drop_take_eq (k := c) (n := m) hc h6
  have hb : blk (.slice (some ⟨i, o, none⟩) n gc) = i := rfl
  have ho : ofs (.slice (some ⟨i, o, none⟩) n gc) = o := rfl
  rw [hb, ho, GHeap.rdn, h5, Option.bind_some, if_pos (e2 (by omega)), e1]
/-- an argument: a slice of elder memory, of which no more is known than its elements -/
structure GArg1 (H : GHeap) (size : Nat) (v : Value) (n : Nat) (xs : List Value) : Prop where
  rd : GRd H size v n xs
  sl : ∃ a gc, v = .slice a n gc ∧ (gc = 0 ∨ n < gc ∧ a ≠ none) ∧ (n = 0 → a = none ∨ ∃ i o, a = some ⟨i, o, none⟩) ∧ ∀ i o, a = some ⟨i, o, none⟩ → ∃ u, H.unit i = some u ∧ (u = 0 ∨ usz u = size)
theorem GArg1.cut {size n : Nat} {v : Value} {xs : List Value} (h : GArg1 H size v n xs) {k : IntKind} {a b : Int} (h0 : 0 ≤ a) (h1 : a ≤ b) (h2 : b ≤ n) :
    ∃ v', gslice (.sl size) H v (some (.int k a)) (some (.int k b)) none = some v' ∧ GArg1 H size v' (b.toNat - a.toNat) ((xs.drop (a.toNat * size)).take ((b.toNat - a.toNat) * size)) ∧ (v = v' ∨ blk v' = blk v) := by
  obtain ⟨hl, a0, gc0, rfl, h3⟩ := h.rd
  obtain ⟨a1, gc, e, hgc, hnil, hu⟩ := h.sl
  cases e
  have hxl : ((xs.drop (a.toNat * size)).take ((b.toNat - a.toNat) * size)).length = (b.toNat - a.toNat) * size := by
    rw [List.length_take, List.length_drop, hl, ← Nat.sub_mul]
    exact Nat.min_eq_left (Nat.mul_le_mul_right _ (by omega))
  cases a0 with
  | none =>
    have hn : n = 0 := by
      rcases Nat.eq_zero_or_pos n with h | h
      · exact h
      · obtain ⟨i, o, cs, e, _⟩ := h3 h; cases e
    subst hn
    have hg0 : gc0 = 0 := by
      rcases hgc with h | ⟨_, h⟩
      · exact h
      · exact absurd rfl h
    subst hg0
    obtain rfl : a = 0 := by omega
    obtain rfl : b = 0 := by omega
    refine ⟨.slice none 0 0, by simp [gslice, gbounds], ⟨⟨by simp, none, 0, rfl, fun h => absurd h (by simp)⟩, none, 0, rfl, .inl rfl, fun _ => .inl rfl, fun i o e => by cases e⟩, .inl rfl⟩
  | some p =>
    obtain ⟨i, o, rfl⟩ : ∃ i o, p = ⟨i, o, none⟩ := by
      rcases Nat.eq_zero_or_pos n with h | h
      · rcases hnil h with e | ⟨i, o, e⟩
        · cases e
        · cases e; exact ⟨i, o, rfl⟩
      · obtain ⟨i, o, cs, e, _⟩ := h3 h; cases e; exact ⟨i, o, rfl⟩
    obtain ⟨u, hu1, hu2⟩ := hu i o rfl
    refine ⟨.slice (some ⟨i, o + a.toNat * size, none⟩) (b.toNat - a.toNat) (if gc0 = 0 then 0 else gc0 - a.toNat), ?_, ⟨⟨hxl, _, _, rfl, fun hn => ?_⟩, _, _, rfl, ?_, fun _ => .inr ⟨_, _, rfl⟩, fun i' o' e => by cases e; exact ⟨u, hu1, hu2⟩⟩, .inr rfl⟩
    · have : gslice (.sl size) H (.slice (some ⟨i, o, none⟩) n gc0) (some (.int k a)) (some (.int k b)) none = (gbounds n (if gc0 = 0 then n else gc0 - 1) (some (.int k a)) (some (.int k b))).map fun (l, h) => .slice (some ⟨i, o + l * size, none⟩) (h - l) (if gc0 = 0 then 0 else gc0 - l) := by
        cases n <;> cases gc0 <;> simp [gslice, hu1, hu2]
      rw [this]
      have hb1 : 0 ≤ b := by omega
      have hb2 : a ≤ max b 0 := by omega
      have hb3 : b ≤ ((if gc0 = 0 then n else gc0 - 1 : Nat) : Int) := by split <;> omega
      simp only [gbounds]
      rw [if_pos ⟨hb1, hb3⟩]
      simp only
      rw [if_pos ⟨h0, by omega⟩]
      rfl
    · obtain ⟨i', o', cs, e, k1, k2, k3⟩ := h3 (by omega)
      cases e
      refine ⟨i, o + a.toNat * size, cs, rfl, k1, k2, fun j u hu => ?_⟩
      by_cases hj : j < (b.toNat - a.toNat) * size
      · rw [List.getElem?_take_of_lt hj, List.getElem?_drop] at hu
        rw [Nat.add_assoc]; exact k3 _ _ hu
      · rw [List.getElem?_take_eq_none (by omega)] at hu; cases hu
    · rcases hgc with h | ⟨h, _⟩
      · left; rw [if_pos h]
      · right; rw [if_neg (by omega)]; exact ⟨by omega, by simp⟩
theorem gslice_lo0 {q : SlK} {v : Value} {hi mx : Option Value} {k : IntKind} (hv : ∀ x, hi = some x → ∃ k n, x = .int k n) : gslice q H v none hi mx = gslice q H v (some (.int k 0)) hi mx := by
  have : ∀ n c, gbounds n c none hi = gbounds n c (some (.int k 0)) hi := by
    intro n c
    unfold gbounds
    split
    · rfl
    · simp
  unfold gslice
  split <;> simp only [this]
theorem gslice_hi {size n : Nat} {v : Value} {xs : List Value} (h : GArg1 H size v n xs) {lo : Option Value} {k : IntKind} : gslice (.sl size) H v lo none none = gslice (.sl size) H v lo (some (.int k n)) none := by
  obtain ⟨a, gc, e, hgc, _⟩ := h.sl
  subst e
  have : ∀ c, n ≤ c → gbounds n c lo none = gbounds n c lo (some (.int k n)) := by
    intro c hc
    have : (0 : Int) ≤ (n : Int) ∧ (n : Int) ≤ c := by omega
    simp only [gbounds, if_pos this, Int.toNat_natCast]
  cases a with
  | none =>
    cases n with
    | zero =>
      have hg0 : gc = 0 := by
        rcases hgc with h | ⟨_, h⟩
        · exact h
        · exact absurd rfl h
      subst hg0
      simp only [gslice]; rw [this 0 (Nat.le_refl _)]
    | succ n => rfl
  | some p =>
    obtain ⟨i, o, pr⟩ := p
    cases pr with
    | none =>
      simp only [gslice]
      rw [this _ (by split <;> omega)]
    | some x => rfl
theorem GArg1.same {size n : Nat} {v : Value} {xs : List Value} (h : GArg1 H size v n xs) (hw : H.wf) (hs : Same H H') : GArg1 H' size v n xs := by
  refine ⟨h.rd.same hs, ?_⟩
  obtain ⟨a, gc, e, k0, k1, k2⟩ := h.sl
  refine ⟨a, gc, e, k0, k1, fun i o ha => ?_⟩
  obtain ⟨u, k3, k4⟩ := k2 i o ha
  exact ⟨u, hs.unit hw k3, k4⟩
/-- integers as cells -/
def ints (k : IntKind) (l : List Int) : List Value := l.map (.int k)
theorem ints_length {k : IntKind} {l : List Int} : (ints k l).length = l.length := by simp [ints]
theorem ints_get {k : IntKind} {l : List Int} {j : Nat} : (ints k l)[j]? = (l[j]?).map (.int k) := by simp [ints]
theorem ints_set {k : IntKind} {l : List Int} {j : Nat} {x : Int} : (ints k l).set j (.int k x) = ints k (l.set j x) := by simp [ints, List.map_set]
theorem gget {α : Type} {l : List α} {j : Nat} [Inhabited α] (h : j < l.length) : l[j]? = some l[j]! := by
  rw [List.getElem?_eq_getElem h, List.getElem!_eq_getElem?_getD, List.getElem?_eq_getElem h]; rfl
theorem ints_at {k : IntKind} {l : List Int} {j : Nat} (h : j < l.length) : (ints k l)[j]? = some (.int k l[j]!) := by rw [ints_get, gget h]; rfl
/-! ### values -/
theorem wr_i64 {n : Int} (h : -9223372036854775808 ≤ n ∧ n ≤ 9223372036854775807) : IntKind.i64.wrap n = n := by rw [IntKind.wrap_i64]; omega
theorem wr_i32 {n : Int} (h : -2147483648 ≤ n ∧ n ≤ 2147483647) : IntKind.i32.wrap n = n := by rw [IntKind.wrap_i32]; omega
theorem wr_u8 {n : Int} (h : 0 ≤ n ∧ n ≤ 255) : IntKind.u8.wrap n = n := by rw [IntKind.wrap_u8]; omega
theorem wr_u16 {n : Int} (h : 0 ≤ n ∧ n ≤ 65535) : IntKind.u16.wrap n = n := by rw [IntKind.wrap_u16]; omega
theorem wr_u32 {n : Int} (h : 0 ≤ n ∧ n ≤ 4294967295) : IntKind.u32.wrap n = n := by rw [IntKind.wrap_u32]; omega
section
variable {k : IntKind} {e : Option EqK} {a b : Int}
theorem gb_eql' : gbin .eql e (.int k a) (.int k b) = some (.bool (decide (a = b))) := by simp only [gb_eql]; congr 2
theorem gb_neq' : gbin .neq e (.int k a) (.int k b) = some (.bool (decide (¬ a = b))) := by
  simp only [gb_neq]; congr 2
  by_cases h : a = b <;> simp [h]
theorem gb_mul : gbin .mul e (.int k a) (.int k b) = some (.int k (k.wrap (a * b))) := by simp [gbin, gint]
theorem gb_quo (h : b ≠ 0) : gbin .quo e (.int k a) (.int k b) = some (.int k (k.wrap (a.tdiv b))) := by simp [gbin, gint, h]
theorem gb_rem (h : b ≠ 0) : gbin .rem e (.int k a) (.int k b) = some (.int k (a.tmod b)) := by simp [gbin, gint, h]
theorem gu_not {t : Bool} : gun .not (.bool t) = some (.bool !t) := rfl
theorem gu_neg : gun .neg (.int k a) = some (.int k (k.wrap (0 - a))) := rfl
theorem gfold_min1 : gfold gmin2 [.int k b] (.int k a) = some (.int k (min a b)) := by
  simp only [gfold, gmin2, Option.bind_some]
  congr 2
  rw [Int.min_def]
  split <;> split <;> omega
theorem gfold_max1 : gfold gmax2 [.int k b] (.int k a) = some (.int k (max a b)) := by
  simp only [gfold, gmax2, Option.bind_some]
  congr 2
  rw [Int.max_def]
  split <;> split <;> omega
end
end
/-! ### where an object is out of sight while the rest is done in any order -/
section
variable {call : GCall} {fr : Fr} {H : GHeap} {ks : List Kt} {R : Fr → GHeap → Prop} {hid : List Nat} {r : List (Bool × GOper)} {K : Fr → GHeap → Prop} {op : GOp} {d : Nat}
structure Gp (call : GCall) (hid : List Nat) (l : List (Bool × GOper)) (K : Fr → GHeap → Prop) (fr : Fr) (H : GHeap) : Prop where
  ok : ∃ f2 H2, gpost call hid l fr H = some (f2, H2) ∧ K f2 H2
theorem Gp_nil (h : K fr H) : Gp call hid [] K fr H := ⟨fr, H, rfl, h⟩
theorem Gp_s (h : ∀ K' : Value → GHeap → Prop, (∀ v H', Gp call hid r K (fr.set d v) H' → K' v H') → G1 (gdo call fr H op) K') : Gp call hid ((false, ⟨some d, none, op⟩) :: r) K fr H := by
  have h := (h _ fun _ _ h => h).ok
  cases hr : gdo call fr H op with
  | none => rw [hr] at h; exact h.elim
  | some x =>
    rw [hr] at h
    obtain ⟨f2, H2, h1, h2⟩ := h.ok
    refine ⟨f2, H2, ?_, h2⟩
    simp only [gpost, gwants_none, hr]
    exact h1
theorem Gp_t (ha : aims fr hid op = true) (h : ∀ K' : Value → GHeap → Prop, (∀ v H', Gp call hid r K (fr.set d v) H' → K' v H') → G1 (gdo call fr H op) K') : Gp call hid ((true, ⟨some d, none, op⟩) :: r) K fr H := by
  have h := (h _ fun _ _ h => h).ok
  cases hr : gdo call fr H op with
  | none => rw [hr] at h; exact h.elim
  | some x =>
    rw [hr] at h
    obtain ⟨f2, H2, h1, h2⟩ := h.ok
    refine ⟨f2, H2, ?_, h2⟩
    simp only [gpost, gwants_none, hr, ha]
    exact h1
theorem GW_hide {x : GArg} {v : Value} {i u : Nat} {cs : List Value} {pre : List GOper} {post : List (Bool × GOper)} (hv : x.ev fr = some v) (hi : idOf v = [i]) (hl : i < H.len) (ho : H.mine i = some (cs, u))
    (h : Gw (gdoM call) pre (fun fr' H' => Gp call [i] post (GN call ks R) fr' (H'.put i (.cells cs u true))) fr (H.put i (.dead u))) : GW call (.any [x] pre post) ks R fr H := by
  have hobj := (mine_obj ho).2
  have hh : (hidden fr [x]).filter (· < H.len) = [i] := by simp [hidden, hv, hi, hl]
  have hg : ghide H [i] = H.put i (.dead u) := by simp [ghide, GHeap.unit, hobj, GObj.unit]
  obtain ⟨f1, H1, h1, h2⟩ := gws_ok h.ok
  obtain ⟨f2, H2, h3, h4⟩ := h2.ok
  have hb : gback H H1 [i] = H1.put i (.cells cs u true) := by simp [gback, hobj]
  exact ⟨gwp_hide hh (by rw [hg]; exact h1) ⟨f2, H2, by rw [hb]; exact h3, h4.ok⟩⟩
/-- a slice of one's own that grows -/
structure OwnG (H : GHeap) (v : Value) (size u n : Nat) (xs : List Value) : Prop where
  len : xs.length = n * size
  at_ : (v = .slice none 0 0 ∧ n = 0) ∨ ∃ i gc, v = .slice (some ⟨i, 0, none⟩) n gc ∧ (gc = 0 ∨ gc = n + 1) ∧ H.mine i = some (xs, u)
theorem gapp_own {v x : Value} {size bytes u n m : Nat} {xs news : List Value} (hw : H.wf) (h : OwnG H v size u n xs) (hu : u ≠ 0) (hs : size ≠ 0) (hc : gcount x = some m) (hg : gcells size m H x = some news) (hl : news.length = m * size) (hm : 0 < m) (hb : (n + m) * bytes ≤ 140737488355328) (hb2 : n + m ≤ 9223372036854775807) :
    ∃ v' H', gapp size bytes u H v x = some (v', H') ∧ OwnG H' v' size u (n + m) (xs ++ news) ∧ H'.wf ∧ H'.lim = H.lim ∧ H'.len = H.len + 1 ∧ blk v' = H.len ∧ (∀ j, j < H.len → j ≠ blk v ∨ v = .slice none 0 0 → H'.obj j = H.obj j) := by
  have hlen : (xs ++ news).length = (n + m) * size := by rw [List.length_append, h.len, hl, Nat.add_mul]
  have hadd : ∀ (H1 : GHeap), H1.wf → H1.lim = H.lim → H1.len = H.len → ∀ cs, (H1.add (some (.cells cs u true))).wf ∧ (H1.add (some (.cells cs u true))).mine H.len = some (cs, u) := by
    intro H1 hw1 hl1 hl2 cs
    refine ⟨(Fwd.add hw1 _).wf hw1, mine_add_eq hl2 (by rw [hl1]; exact hw.1)⟩
  have hm0 : ¬ m = 0 := by omega
  have hcond : (n + m) * bytes ≤ 140737488355328 ∧ n + m ≤ 9223372036854775807 ∧ size ≠ 0 ∧ news.length = m * size := ⟨hb, hb2, hs, hl⟩
  rcases h.at_ with ⟨rfl, rfl⟩ | ⟨i, gc, rfl, hgc, hmi⟩
  · have hx0 : xs = [] := List.eq_nil_of_length_eq_zero (by have := h.len; omega)
    subst hx0
    refine ⟨.slice (some ⟨H.len, 0, none⟩) m 0, H.add (some (.cells news u true)), ?_, ⟨hlen, .inr ⟨H.len, 0, by rw [Nat.zero_add], .inl rfl, by rw [List.nil_append]; exact (hadd H hw rfl rfl news).2⟩⟩, (hadd H hw rfl rfl news).1, rfl, rfl, rfl, fun j hj _ => ?_⟩
    · simp only [gapp, hc, hg, Option.bind_some, if_neg hm0, if_pos hcond, if_true]
    · rw [obj_add, if_neg (by omega)]
  · obtain ⟨hml, hob⟩ := mine_obj hmi
    have hil := mine_lt hw hmi
    rcases hgc with rfl | rfl
    · have hle : 0 + n * size ≤ xs.length := by have := h.len; omega
      have e1 : (xs.drop 0).take (n * size) = xs := by rw [List.drop_zero, List.take_of_length_le (by have := h.len; omega)]
      refine ⟨.slice (some ⟨H.len, 0, none⟩) (n + m) 0, (H.put i (.dead u)).add (some (.cells (xs ++ news) u true)), ?_, ⟨hlen, .inr ⟨H.len, 0, rfl, .inl rfl, (hadd (H.put i (.dead u)) (wf_put hw hil _) rfl rfl _).2⟩⟩, (hadd (H.put i (.dead u)) (wf_put hw hil _) rfl rfl _).1, rfl, rfl, rfl, fun j hj hne => ?_⟩
      · simp only [gapp, hc, hg, Option.bind_some, if_neg hm0, if_pos hcond, if_true, hmi]
        rw [if_pos ⟨trivial, hu, hle⟩, e1]
      · rw [obj_add, if_neg (by show H.len ≠ j; omega), obj_put, if_neg]
        rcases hne with h | h
        · exact Ne.symm h
        · cases h
    · have hgc0 : ¬ n + 1 = 0 := by omega
      have hge : n + 1 ≤ n + m := by omega
      have hold : gcells size n H (.slice (some ⟨i, 0, none⟩) n (n + 1)) = some xs := by
        simp only [gcells]
        by_cases h0 : n * size = 0
        · rw [if_pos h0]
          have : xs = [] := List.eq_nil_of_length_eq_zero (by rw [h.len]; exact h0)
          rw [this]
        · rw [if_neg h0, mine_cs hmi]
          simp only
          rw [if_pos (by have := h.len; omega), List.drop_zero, List.take_of_length_le (by have := h.len; omega)]
      refine ⟨.slice (some ⟨H.len, 0, none⟩) (n + m) 0, H.add (some (.cells (xs ++ news) u true)), ?_, ⟨hlen, .inr ⟨H.len, 0, rfl, .inl rfl, (hadd H hw rfl rfl _).2⟩⟩, (hadd H hw rfl rfl _).1, rfl, rfl, rfl, fun j hj hne => ?_⟩
      · simp only [gapp, hc, hg, Option.bind_some, if_neg hm0, if_pos hcond, if_neg hgc0, if_pos hge, hold, h.len, if_true]
      · rw [obj_add, if_neg (by omega)]
theorem OwnG.rd {v : Value} {size u n : Nat} {xs : List Value} (hw : H.wf) (h : OwnG H v size u n xs) : GRd H size v n xs := by
  refine ⟨h.len, ?_⟩
  rcases h.at_ with ⟨rfl, rfl⟩ | ⟨i, gc, rfl, _, hmi⟩
  · exact ⟨none, 0, rfl, fun h => absurd h (by omega)⟩
  · exact ⟨_, gc, rfl, fun _ => ⟨i, 0, xs, rfl, mine_lt hw hmi, mine_cs hmi, fun j u hu => by rw [Nat.zero_add]; exact hu⟩⟩
theorem gcells_own {i n gc u : Nat} {xs : List Value} {size : Nat} (hm : H.mine i = some (xs, u)) (hl : xs.length = n * size) : gcells size n H (.slice (some ⟨i, 0, none⟩) n gc) = some xs := by
  simp only [gcells]
  by_cases h0 : n * size = 0
  · have : xs = [] := List.eq_nil_of_length_eq_zero (by rw [hl]; exact h0)
    rw [if_pos h0, this]
  · rw [if_neg h0, mine_cs hm]
    simp only
    rw [if_pos (by omega), List.drop_zero, List.take_of_length_le (by omega)]
/-- the same heap but for what came to it, seen from an elder one -/
theorem Same.of_obj {H0 H' : GHeap} (h : Same H0 H) (hw : H'.wf) (hlim : H'.lim = H.lim) (hlen : H.len ≤ H'.len) (ho : ∀ j, j < H0.len → H'.obj j = H.obj j) : Same H0 H' :=
  ⟨hlim.trans h.lim, Nat.le_trans h.len hlen, fun j hj => (ho j hj).trans (h.obj j hj), hw⟩
end
theorem zeros_ints {k : IntKind} {v : Int} : ∀ {n : Nat}, zeros [.int k v] n = ints k (List.replicate n v)
  | 0 => rfl
  | n + 1 => by rw [zeros, zeros_ints, List.replicate_succ]; rfl
theorem zeros_sl : ∀ {n : Nat}, zeros [.slice none 0 0] n = List.replicate n (.slice none 0 0)
  | 0 => rfl
  | n + 1 => by rw [zeros, zeros_sl, List.replicate_succ]; rfl
theorem gmake_sq {z : List Value} {b u : Nat} {H : GHeap} {k k' : IntKind} {l : Int} (h0 : 0 ≤ l) (h2 : l * b ≤ 281474976710656) (h3 : l ≤ 9223372036854775807) : gmake z b u H (.int k l) (.int k' l) = some (.slice (some ⟨H.len, 0, none⟩) l.toNat (l.toNat + 1), some (.cells (zeros z l.toNat) u true)) := by
  simp only [gmake]
  rw [if_pos ⟨h0, Int.le_refl _, h2, h3⟩]
theorem GArg1.gslice_same {H H' : GHeap} {size n : Nat} {v : Value} {xs : List Value} (h : GArg1 H size v n xs) (hw : H.wf) (hs : Same H H') (lo hi mx : Option Value) : gslice (.sl size) H' v lo hi mx = gslice (.sl size) H v lo hi mx := by
  obtain ⟨a, gc, rfl, k0, k1, k2⟩ := h.sl
  cases a with
  | none => cases n <;> cases gc <;> rfl
  | some p =>
    obtain ⟨i, o, pr⟩ := p
    cases pr with
    | some x => rfl
    | none =>
      obtain ⟨u, h1, _⟩ := k2 i o rfl
      have h2 := hs.unit hw h1
      simp only [gslice, h1, h2]
theorem cells_flat {v : Value} (h : flatV v = true) : v.cells = #[v] := by cases v <;> first | rfl | simp [flatV] at h
theorem fillL_1 {cells : List Value} {v : Value} (hc : cells.length = 1) (hv : flatV v = true) : fillL cells [(0, 1, v)] = some [v] := by
  match cells, hc with
  | [c], _ => simp [fillL, cells_flat hv, hv]
theorem fillL_0 {cells : List Value} : fillL cells [] = some cells := rfl
theorem ints_nil {k : IntKind} : ints k [] = [] := rfl
theorem gcells_1 {H : GHeap} {i gc u : Nat} {v : Value} (h : H.mine i = some ([v], u)) : gcells 1 1 H (.slice (some ⟨i, 0, none⟩) 1 gc) = some [v] := gcells_own h rfl
theorem gcount_sl {a : Option Addr} {n c : Nat} : gcount (.slice a n c) = some n := rfl
theorem G1_eq {x : Option (Value × GHeap)} {v : Value} {H' : GHeap} {K : Value → GHeap → Prop} (e : x = some (v, H')) (h : K v H') : G1 x K := by rw [e]; exact ⟨h⟩
theorem rd_obj {H H' : GHeap} {i : Nat} (h : H'.obj i = H.obj i) (o : Nat) : H'.rd i o = H.rd i o := by simp only [GHeap.rd, GHeap.cs, h]
/-- one element more, just made -/
theorem OwnG.app1 {H : GHeap} {vo x : Value} {u k b : Nat} {xs : List Value} (h : OwnG H vo 1 u k xs) (hw : H.wf) (hu : u ≠ 0) (hb : (k + 1) * b ≤ 140737488355328) (hk : k < 140737488355328) :
    ∃ v' H', gapp 1 b u (H.add (some (.cells [x] u true))) vo (.slice (some ⟨H.len, 0, none⟩) 1 2) = some (v', H') ∧ OwnG H' v' 1 u (k + 1) (xs ++ [x]) ∧ (∀ H0, Same H0 H → H0.len ≤ blk vo ∨ vo = .slice none 0 0 → Same H0 H' ∧ H0.len ≤ blk v') ∧ ∀ j, j < H.len → j ≠ blk vo ∨ vo = .slice none 0 0 → H'.obj j = H.obj j := by
  have hw2 := (Fwd.add hw (some (.cells [x] u true))).wf hw
  have hO2 : OwnG (H.add (some (.cells [x] u true))) vo 1 u k xs := ⟨h.len, h.at_.imp id fun ⟨j, gc, e, hg, hm⟩ => ⟨j, gc, e, hg, by rw [mine_add_ne (by have := mine_lt hw hm; omega)]; exact hm⟩⟩
  obtain ⟨v', H', k1, k2, k3, k4, k5, k6, k7⟩ := gapp_own (bytes := b) (m := 1) (x := .slice (some ⟨H.len, 0, none⟩) 1 2) (news := [x]) hw2 hO2 hu (by omega) rfl (gcells_1 (mine_add_eq rfl hw.1)) rfl (by omega) (by omega) (by omega)
  refine ⟨v', H', k1, k2, fun H0 hS hv => ⟨(hS.add _).of_obj k3 k4 (by omega) fun j hj => k7 j (Nat.lt_of_lt_of_le hj (Nat.le_succ_of_le hS.len)) ?_, ?_⟩, fun j hj hne => by rw [k7 j (Nat.lt_succ_of_lt hj) hne, obj_add, if_neg (by omega)]⟩
  · rcases hv with hv | hv
    · exact .inl (by omega)
    · exact .inr hv
  · rw [k6, len_add]; exact Nat.le_succ_of_le hS.len
theorem OwnG.arg {H : GHeap} {v : Value} {size u n : Nat} {xs : List Value} (hw : H.wf) (h : OwnG H v size u n xs) (hu : u = 0 ∨ usz u = size) : GArg1 H size v n xs := by
  refine ⟨h.rd hw, ?_⟩
  rcases h.at_ with ⟨rfl, rfl⟩ | ⟨i, gc, rfl, hg, hm⟩
  · exact ⟨none, 0, rfl, .inl rfl, fun _ => .inl rfl, fun i o e => by cases e⟩
  · refine ⟨_, gc, rfl, ?_, fun _ => .inr ⟨_, _, rfl⟩, fun i' o' e => ?_⟩
    · rcases hg with h | h
      · exact .inl h
      · exact .inr ⟨by omega, by simp⟩
    · cases e
      exact ⟨u, by unfold GHeap.unit; rw [(mine_obj hm).2]; rfl, hu⟩
theorem gcells_arg {H : GHeap} {size n : Nat} {v : Value} {xs : List Value} (h : GArg1 H size v n xs) : gcells size n H v = some xs := by
  obtain ⟨a0, gc0, e0, _, hnil, _⟩ := h.sl
  obtain ⟨hl, a, gc, rfl, h3⟩ := h.rd
  cases e0
  cases a0 with
  | none =>
    have hn : n = 0 := by
      rcases Nat.eq_zero_or_pos n with h | h
      · exact h
      · obtain ⟨i, o, cs, e, _⟩ := h3 h; cases e
    subst hn
    have : xs = [] := List.eq_nil_of_length_eq_zero (by omega)
    subst this; rfl
  | some p =>
    by_cases h0 : n * size = 0
    · have hx : xs = [] := List.eq_nil_of_length_eq_zero (by omega)
      subst hx
      obtain ⟨i, o, rfl⟩ : ∃ i o, p = ⟨i, o, none⟩ := by
        rcases Nat.eq_zero_or_pos n with h | h
        · rcases hnil h with e | ⟨i, o, e⟩
          · cases e
          · cases e; exact ⟨i, o, rfl⟩
        · obtain ⟨i, o, cs, e, _⟩ := h3 h; cases e; exact ⟨i, o, rfl⟩
      simp [gcells, h0]
    · obtain ⟨i, o, cs, e, k1, k2, k3⟩ := h3 (Nat.pos_of_ne_zero fun h => h0 (by rw [h, Nat.zero_mul]))
      cases e
      obtain ⟨e1, e2⟩ := drop_take_eq (o := o) (k := 0) (n := n * size) (by omega) k3
      simp only [gcells, if_neg h0, k2]
      have := e2 h0
      rw [if_pos (by omega)]
      rw [Nat.add_zero, List.drop_zero] at e1
      rw [e1, List.take_of_length_le (by omega)]
end Go.Gh
