/-
  All operations, by kind.
-/
import Derived.Test.YtfcbdkbdalbjmaaGhL
namespace Go.Gh
set_option linter.unusedVariables false
set_option linter.unusedSimpArgs false
open Go.RowKit

def opRel (P : Program) (op : Op) (g : GOp) : Prop := cOp P op = some g ∨ ∃ size bytes u s x, cOp P op = some (.app size bytes u s x) ∧ g = .appM size bytes u s x
section
variable {P : Program} {base lim : Nat} {ι : Inj} {H : GHeap} {w : World} {fr : Fr} {act : Act}
theorem lift_run {s : Sem Value} {r : Value} {w' : World} (h : s.run P w = .ok r w') : (do pure (Next.value (← s)) : Sem Next).run P w = .ok (.value r) w' := by simp [h]
theorem app_types {sT xT : TypeId} {size bytes u : Nat} {e : TypeId} {z : Value} {d : TypeDesc} (he : elK P sT = some e) (hx : P.underlying xT = some d) (hs : szK P e = some size) (hb : byK P e = some bytes) (hz : zeroK P e = some z) (hzs : z.cells.size = size) (hu : u = uK P e)
    (hd : (∃ e', d = .slice e') ∨ (d = .string ∧ size = 1)) : Nonempty (AppT P sT xT size bytes u) := by
  obtain ⟨i, hi, hiz, _, _⟩ := zeroK_some hz
  unfold szK at hs; unfold byK at hb
  rw [hi] at hs hb
  cases hs; cases hb
  unfold elK at he
  split at he
  · rename_i e' hu'
    cases he
    exact ⟨⟨e, i, z, d, hu', hi, hiz, rfl, rfl, hzs, hx, hd, hu⟩⟩
  · cases he
theorem cArgs_len : ∀ (xs : List Operand) (as : List GArg), cArgs P xs = some as → as.length = xs.length
  | [], as, h => by cases h; rfl
  | x :: xs, as, h => by
    simp only [cArgs] at h
    split at h
    · rename_i a l ha hl; cases h; simp [cArgs_len xs l hl]
    · cases h
/-- an append, its types, its operands -/
theorem app_inv {args : Array Operand} {ts : Array TypeId} {size bytes u : Nat} {s x : GArg} (h : cOp P (.call { callee := .builtin .append, args, argTypes := ts }) = some (.app size bytes u s x)) :
    ∃ S X, args = #[S, X] ∧ cArg P S = some s ∧ cArg P X = some x ∧ ∃ sT xT, ts[0]? = some sT ∧ ts[1]? = some xT ∧ Nonempty (AppT P sT xT size bytes u) ∧ (∀ e', P.underlying xT = some (.slice e') → True) ∧ ((∃ e', P.underlying xT = some (.slice e')) ∨ (P.underlying xT = some .string ∧ size = 1)) := by
  simp only [cOp] at h
  cases hl : cArgs P args.toList with
  | none => rw [hl] at h; simp at h
  | some l =>
    rw [hl] at h
    rcases l with _ | ⟨s', _ | ⟨x', _ | ⟨_, _⟩⟩⟩
    · simp at h
    · simp at h
    · have hargs : ∃ S X, args.toList = [S, X] ∧ cArg P S = some s' ∧ cArg P X = some x' := by
        match ha : args.toList, hl with
        | [], hl => simp [cArgs] at hl
        | [S], hl => have := cArgs_len _ _ hl; simp at this
        | [S, X], hl =>
          simp only [cArgs] at hl
          split at hl
          · rename_i a l ha' hl'
            split at hl'
            · rename_i b l2 hb' hl2
              cases hl2; cases hl'; cases hl
              exact ⟨S, X, rfl, ha', hb'⟩
            · cases hl'
          · cases hl
        | S :: X :: Y :: r, hl =>
          have := cArgs_len _ _ hl
          simp at this
      obtain ⟨S, X, hSX, hS, hX⟩ := hargs
      dsimp only at h
      split at h
      · rename_i e d he hd
        split at h
        · rename_i sz by' z e' hsz hby hz
          split at h
          · rename_i hzs
            cases h
            simp only [Option.bind_eq_some_iff] at he hd
            obtain ⟨sT, h0, he⟩ := he
            obtain ⟨xT, h1, hd⟩ := hd
            refine ⟨S, X, by rw [← hSX], hS, hX, sT, xT, h0, h1, app_types he hd hsz hby hz hzs rfl (.inl ⟨_, rfl⟩), fun _ _ => trivial, .inl ⟨_, hd⟩⟩
          · cases h
        · rename_i by' z hsz hby hz
          split at h
          · rename_i hzs
            cases h
            simp only [Option.bind_eq_some_iff] at he hd
            obtain ⟨sT, h0, he⟩ := he
            obtain ⟨xT, h1, hd⟩ := hd
            refine ⟨S, X, by rw [← hSX], hS, hX, sT, xT, h0, h1, app_types he hd hsz hby hz hzs rfl (.inr ⟨rfl, rfl⟩), fun _ _ => trivial, .inr ⟨hd, rfl⟩⟩
          · cases h
        · cases h
      · cases h
    · simp at h
theorem cvK_bytes {s d : TypeId} {u : Nat} (h : cvK P s d = some (.bytes u)) : ∃ e, P.underlying s = some .string ∧ P.underlying d = some (.slice e) ∧ P.underlying e = some (.int .u8) ∧ szK P e = some 1 ∧ u = uK P e := by
  unfold cvK at h
  split at h <;> first | (cases h; done) | skip
  · rename_i e h1 h2
    split at h <;> (try split at h) <;> cases h
    exact ⟨e, h1, h2, by assumption, by assumption, rfl⟩
  · split at h <;> cases h
theorem cvK_runes {s d : TypeId} {u : Nat} (h : cvK P s d = some (.runes u)) : ∃ e, P.underlying s = some .string ∧ P.underlying d = some (.slice e) ∧ P.underlying e = some (.int .i32) ∧ szK P e = some 1 ∧ u = uK P e := by
  unfold cvK at h
  split at h <;> first | (cases h; done) | skip
  · rename_i e h1 h2
    split at h <;> (try split at h) <;> cases h
    exact ⟨e, h1, h2, by assumption, by assumption, rfl⟩
  · split at h <;> cases h
/-- what min and max get -/
theorem args_cons {xs : Array Operand} {a : GArg} {r : List GArg} (h : cArgs P xs.toList = some (a :: r)) : ∃ x l, xs.toList = x :: l ∧ cArg P x = some a ∧ cArgs P l = some r := by
  cases hx : xs.toList with
  | nil => rw [hx] at h; cases h
  | cons x l =>
    rw [hx] at h
    simp only [cArgs] at h
    split at h
    · rename_i b m hb hm
      cases h
      exact ⟨x, l, rfl, hb, hm⟩
    · cases h
theorem lookupD (ts : Array TypeId) (P : Program) {d : TypeDesc} (h : (ts[0]?).bind P.underlying = some d) : ∃ t, ts[0]? = some t ∧ P.underlying t = some d := by
  simp only [Option.bind_eq_some_iff] at h; exact h

theorem cOp_app {op : Op} {size bytes u : Nat} {s x : GArg} (h : cOp P op = some (.app size bytes u s x)) : ∃ args ts, op = .call { callee := .builtin .append, args := args, argTypes := ts } := by
  cases op with
  | call c =>
    obtain ⟨callee, args, ts⟩ := c
    cases callee with
    | builtin b =>
      cases b with
      | append => exact ⟨_, _, rfl⟩
      | _ => exfalso; simp only [cOp] at h; revert h; (repeat' split) <;> first | contradiction | simp
    | value f => exfalso; simp only [cOp] at h; revert h; (repeat' split) <;> simp
    | invoke r m => simp [cOp] at h
  | _ => exfalso; revert h; simp only [cOp]; (repeat' split) <;> first | contradiction | simp

section
variable {dst : Option Tmp} {ty : TypeId} {pos : String} {after : Array Edge} {guard : Option (Nat × Bool)}
theorem one (h : HR P base lim ι H.t w) {s : Sem Value} {v : Value} (hk : ∃ r', s.run P w = .ok r' w ∧ VR ι v r') : MOk P base lim ι H w v none (do pure (.value (← s))) := by
  obtain ⟨r', h1, h2⟩ := hk
  exact MOk.same h (lift_run h1) h2

theorem glen_ok {ts : Array TypeId} {t ty : TypeId} {q : Bool} (hd : if q then P.underlying t = some .string else ∃ e, P.underlying t = some (.slice e)) (ht : ts[0]? = some t) {x x' r : Value} {l : List Value} (hx : VR ι x x') (hr : glen q x = some r) :
    ∃ r', (Builtin.len_ ts ty (x' :: l).toArray).run P w = .ok r' w ∧ VR ι r r' := by
  unfold glen at hr
  split at hr
  · rename_i s
    cases hr
    obtain rfl := hx.str_inv
    simp only [if_true] at hd
    exact ⟨_, by simp [Builtin.len_, ht, run_underlying hd, goInt], .lit rfl⟩
  · rename_i a n c
    cases hr
    simp only [Bool.false_eq_true, if_false] at hd
    obtain ⟨e, hd⟩ := hd
    have : ∃ b c', x' = .slice b n c' := by
      cases a with
      | none => obtain ⟨rfl, rfl, rfl⟩ := hx.slN_inv; exact ⟨_, _, rfl⟩
      | some a => obtain ⟨b, c', rfl⟩ := hx.slS_inv; exact ⟨_, _, rfl⟩
    obtain ⟨b, c', rfl⟩ := this
    exact ⟨_, by simp [Builtin.len_, ht, run_underlying hd, goInt], .lit rfl⟩
  · cases hr
theorem append_ts {ts : Array TypeId} {sT xT ty : TypeId} {args : Array Value} (h0 : ts[0]? = some sT) (h1 : ts[1]? = some xT) : Builtin.append_ ts ty args = Builtin.append_ #[sT, xT] ty args := by
  unfold Builtin.append_
  rw [h0, h1]
  rfl
theorem gopM_ok {o : Oper} {g : GOp} (hc : opRel P o.op g) {v : Value} {new : Option GObj} (hM : gopM fr H g = some (v, new)) (h : HR P base lim ι H.t w) (hfr : FR ι fr act) (hb : szK P P.rt.byte = some 1) (hn : new.isSome = true → ι H.len = none) :
    MOk P base lim ι H w v new (execOp act.eval o) := by
  obtain ⟨dst, op, ty, pos, after, guard⟩ := o
  rcases hc with hc | ⟨size, bytes, u, s, x, hc, rfl⟩
  case inr =>
    obtain ⟨args, ts, hop⟩ := cOp_app hc
    simp only at hop
    subst hop
    obtain ⟨S, X, rfl, hS, hX, sT, xT, h0, h1, ⟨T⟩, _⟩ := app_inv hc
    simp only [gopM, Option.bind_eq_some_iff] at hM
    obtain ⟨sv, hsv, xv, hxv, hM⟩ := hM
    have := gappM_ok (ty := ty) h hb T (cArg_ok hS hsv hfr h) (cArg_ok hX hxv hfr h) hM hn
    have e := append_ts (ty := ty) (args := #[act.eval S, act.eval X]) h0 h1
    have ea : #[S, X].map act.eval = #[act.eval S, act.eval X] := by simp
    rw [← e, ← ea] at this
    exact this
  simp only at hc
  cases op with
  | move x =>
    simp only [cOp, Option.map_eq_some_iff] at hc
    obtain ⟨a, ha, rfl⟩ := hc
    simp only [gopM, Option.map_eq_some_iff, Prod.mk.injEq] at hM
    obtain ⟨u, hu, rfl, rfl⟩ := hM
    exact MOk.same h rfl (cArg_ok ha hu hfr h)
  | assign x =>
    simp only [cOp, Option.map_eq_some_iff] at hc
    obtain ⟨a, ha, rfl⟩ := hc
    simp only [gopM, Option.map_eq_some_iff, Prod.mk.injEq] at hM
    obtain ⟨u, hu, rfl, rfl⟩ := hM
    exact MOk.same h rfl (cArg_ok ha hu hfr h)
  | pick c x y =>
    simp only [cOp] at hc
    split at hc
    · rename_i a b c' ha hb' hc'
      cases hc
      simp only [gopM] at hM
      split at hM
      · rename_i t ht
        simp only [Option.map_eq_some_iff, Prod.mk.injEq] at hM
        obtain ⟨u, hu, rfl, rfl⟩ := hM
        have hcv := (cArg_ok ha ht hfr h).bool_inv
        cases t
        · exact MOk.same h (by show (do pure (Next.value (if ← asBool (act.eval c) then act.eval x else act.eval y)) : Sem Next).run P w = _; rw [hcv]; rfl) (cArg_ok hc' (by simpa using hu) hfr h)
        · exact MOk.same h (by show (do pure (Next.value (if ← asBool (act.eval c) then act.eval x else act.eval y)) : Sem Next).run P w = _; rw [hcv]; rfl) (cArg_ok hb' (by simpa using hu) hfr h)
      · cases hM
    · cases hc
  | alloc e =>
    simp only [cOp, Option.map_eq_some_iff] at hc
    obtain ⟨z, hz, rfl⟩ := hc
    cases hM
    exact alloc_op_ok h (hn rfl) hz
  | box e x =>
    simp only [cOp, Option.map_eq_some_iff] at hc
    obtain ⟨a, ha, rfl⟩ := hc
    simp only [gopM, Option.bind_eq_some_iff] at hM
    obtain ⟨u, hu, hM⟩ := hM
    split at hM
    · rename_i hf
      cases hM
      exact box_ok h (hn rfl) (cArg_ok ha hu hfr h) hf
    · cases hM
  | build t ps =>
    simp only [cOp] at hc
    split at hc
    · rename_i z l hz hl
      split at hc
      · rename_i hp
        cases hc
        simp only [gopM, Option.bind_eq_some_iff, Option.map_eq_some_iff, Prod.mk.injEq] at hM
        obtain ⟨vs, hvs, cs, hcs, rfl, rfl⟩ := hM
        exact one h (build_ok hfr h hz hp hl hvs hcs)
      · cases hc
    · cases hc
  | buildSlice t n ps =>
    simp only [cOp] at hc
    split at hc
    · rename_i z b u hk
      split at hc
      · rename_i hle
        simp only [Option.map_eq_some_iff] at hc
        obtain ⟨as, hp, rfl⟩ := hc
        simp only [gopM, Option.bind_eq_some_iff, Option.map_eq_some_iff, Prod.mk.injEq] at hM
        obtain ⟨vs, hvs, cs, hcs, rfl, rfl⟩ := hM
        have hzf : ∀ v ∈ zeros z n, flatV v = true := fun v hv => flatV_lit ((mkK_some hk).choose_spec.choose_spec.choose_spec.2.2.2.2.2.2.2.1 v (zeros_mem hv))
        obtain ⟨q1, q2⟩ := fillL_flat vs _ cs hcs hzf
        exact buildSl_ok hfr h hb (hn rfl) hk hle hp hvs hcs q1 (by rw [q2, zeros_len])
      · cases hc
    · cases hc
  | load t a =>
    simp only [cOp] at hc
    split at hc
    · rename_i k a' hk ha
      cases hc
      simp only [gopM, Option.bind_eq_some_iff, Option.map_eq_some_iff, Prod.mk.injEq] at hM
      obtain ⟨u, hu, r, hr, rfl, rfl⟩ := hM
      exact one h (gld_ok h hk (cArg_ok ha hu hfr h) hr)
    · cases hc
  | store t p x =>
    simp only [cOp] at hc
    split at hc
    · cases hc; cases hM
    · cases hc
  | nilCheck x =>
    simp only [cOp, Option.map_eq_some_iff] at hc
    obtain ⟨a, ha, rfl⟩ := hc
    simp only [gopM, Option.bind_eq_some_iff] at hM
    obtain ⟨u, hu, hM⟩ := hM
    have hv := cArg_ok ha hu hfr h
    split at hM
    · cases hM
      obtain ⟨b, hb'⟩ := hv.ptrS_inv
      refine MOk.same h ?_ hv
      unfold execOp
      simp [hb']
    · cases hM
      obtain ⟨a', b', hb', _, _⟩ := hv.func_inv
      refine MOk.same h ?_ hv
      unfold execOp
      simp [hb']
    · cases hM
  | binOp bop t x y yt =>
    simp only [cOp] at hc
    split at hc
    · rename_i a b ha hb'
      cases hc
      simp only [gopM, Option.bind_eq_some_iff, Option.map_eq_some_iff, Prod.mk.injEq] at hM
      obtain ⟨u, hu, u2, hu2, r, hr, rfl, rfl⟩ := hM
      exact one h (gbin_ok (X := x) (Y := y) (cArg_ok ha hu hfr h) (cArg_ok hb' hu2 hfr h) hr)
    · cases hc
  | unOp uop t x =>
    simp only [cOp, Option.map_eq_some_iff] at hc
    obtain ⟨a, ha, rfl⟩ := hc
    simp only [gopM, Option.bind_eq_some_iff, Option.map_eq_some_iff, Prod.mk.injEq] at hM
    obtain ⟨u, hu, r, hr, rfl, rfl⟩ := hM
    obtain ⟨q1, q2⟩ := gun_ok (P := P) (w := w) (cArg_ok ha hu hfr h) hr
    exact one h ⟨_, q1, q2⟩
  | convert s d x =>
    simp only [cOp] at hc
    split at hc
    · rename_i r a hr ha
      cases hc
      simp only [gopM, Option.bind_eq_some_iff] at hM
      obtain ⟨u, hu, hM⟩ := hM
      have hv := cArg_ok ha hu hfr h
      cases r with
      | bytes uu =>
        obtain ⟨e, h1, h2, h3, h4, rfl⟩ := cvK_bytes hr
        unfold gconv at hM
        cases u with
        | string q =>
          simp only [Option.some.injEq, Prod.mk.injEq] at hM
          obtain ⟨rfl, rfl⟩ := hM
          have hq := hv.str_inv
          show MOk P base lim ι H w _ _ (do pure (.value (← convert s d (act.eval x))))
          rw [hq]
          exact bytes_ok h hb (hn rfl) h1 h2 h3 h4
        | _ => simp at hM
      | runes uu =>
        obtain ⟨e, h1, h2, h3, h4, rfl⟩ := cvK_runes hr
        unfold gconv at hM
        cases u with
        | string q =>
          simp only [Option.some.injEq, Prod.mk.injEq] at hM
          obtain ⟨rfl, rfl⟩ := hM
          have hq := hv.str_inv
          show MOk P base lim ι H w _ _ (do pure (.value (← convert s d (act.eval x))))
          rw [hq]
          exact runes_ok h hb (hn rfl) h1 h2 h3 h4
        | _ => simp at hM
      | _ =>
        obtain ⟨rfl, q1, q2⟩ := gconv_ok h hr (by intro u e; cases e) (by intro u e; cases e) hv hM
        exact one h ⟨_, q1, q2⟩
    · cases hc
  | makeFunc fn first cap =>
    cases fn with
    | func f =>
      simp only [cOp] at hc
      split at hc
      · rename_i l m hl hm
        cases hc
        simp only [gopM, Option.bind_eq_some_iff, Option.map_eq_some_iff, Prod.mk.injEq] at hM
        obtain ⟨l', hl', m', hm', rfl, rfl⟩ := hM
        have q1 := cArgs_ok hfr h _ _ _ hl hl'
        have q2 := cArgs_ok hfr h _ _ _ hm hm'
        refine one h ⟨.func (.func f) (first.map act.eval) (cap.map act.eval), rfl, ?_⟩
        have e1 : first.map act.eval = (first.toList.map act.eval).toArray := by apply Array.ext'; simp
        have e2 : cap.map act.eval = (cap.toList.map act.eval).toArray := by apply Array.ext'; simp
        rw [e1, e2]
        exact .func (by simpa using q1.1) q1.arr (by simpa using q2.1) q2.arr
      · cases hc
    | _ => simp [cOp] at hc
  | makeSlice t l c =>
    simp only [cOp] at hc
    split at hc
    · rename_i z b u a a2 hk ha ha2
      cases hc
      simp only [gopM, Option.bind_eq_some_iff] at hM
      obtain ⟨lv, hlv, cv, hcv, hM⟩ := hM
      have hsome : new.isSome = true := by
        unfold gmake at hM
        split at hM
        · split at hM <;> cases hM; rfl
        · cases hM
      exact gmake_ok h hb hk (cArg_ok ha hlv hfr h) (cArg_ok ha2 hcv hfr h) hM (hn hsome)
    · cases hc
  | slice t x lo hi mx =>
    simp only [cOp] at hc
    split at hc
    · rename_i r a lo' hi' mx' hr ha hlo hhi hmx
      cases hc
      simp only [gopM, Option.bind_eq_some_iff, Option.map_eq_some_iff, Prod.mk.injEq] at hM
      obtain ⟨u, hu, l, hl, hh, hhh, m, hm, r', hr', rfl, rfl⟩ := hM
      exact one h (gslice_ok h hr (cArg_ok ha hu hfr h) (cOpt_ok hfr h hlo hl) (cOpt_ok hfr h hhi hhh) (cOpt_ok hfr h hmx hm) hr')
    · cases hc
  | fieldAddr s x f =>
    simp only [cOp] at hc
    split at hc
    · rename_i n a hk ha
      cases hc
      simp only [gopM, Option.bind_eq_some_iff, Option.map_eq_some_iff, Prod.mk.injEq] at hM
      obtain ⟨u, hu, r, hr, rfl, rfl⟩ := hM
      obtain ⟨b, o', hbo, hvr⟩ := gadd_ok (cArg_ok ha hu hfr h) hr
      refine one h ⟨_, ?_, hvr⟩
      rw [hbo]
      exact faK_ok hk
    · cases hc
  | field t x f =>
    simp only [cOp] at hc
    split at hc
    · rename_i off k a hk ha
      cases hc
      simp only [gopM, Option.bind_eq_some_iff, Option.map_eq_some_iff, Prod.mk.injEq] at hM
      obtain ⟨u, hu, r, hr, rfl, rfl⟩ := hM
      have hv := cArg_ok ha hu hfr h
      unfold fldK at hk
      split at hk
      · rename_i fs hfs
        split at hk
        · rename_i fd hfd
          simp only [Option.map_eq_some_iff, Prod.mk.injEq] at hk
          obtain ⟨k', hk', rfl, rfl⟩ := hk
          cases u with
          | agg cs =>
            obtain ⟨ds, hds, hrel⟩ := hv.agg_inv
            obtain ⟨r', q1, q2⟩ := gpart_ok (w := w) hk' hrel hr
            refine one h ⟨r', ?_, q2⟩
            rw [hds]
            simp [Instr.field, run_underlying hfs, hfd, asAgg, q1]
          | _ => simp [gpart] at hr
        · cases hk
      · cases hk
    · cases hc
  | indexAddr t x i =>
    simp only [cOp] at hc
    split at hc
    · rename_i len n a b hk ha hb'
      cases hc
      simp only [gopM, Option.bind_eq_some_iff, Option.map_eq_some_iff, Prod.mk.injEq] at hM
      obtain ⟨u, hu, u2, hu2, r, hr, rfl, rfl⟩ := hM
      exact one h (gia_ok (cArg_ok ha hu hfr h) (cArg_ok hb' hu2 hfr h) hr hk)
    · cases hc
  | index t x i =>
    simp only [cOp] at hc
    split at hc
    · rename_i q a b hk ha hb'
      cases hc
      simp only [gopM, Option.bind_eq_some_iff, Option.map_eq_some_iff, Prod.mk.injEq] at hM
      obtain ⟨u, hu, u2, hu2, r, hr, rfl, rfl⟩ := hM
      exact one h (gix_ok (cArg_ok ha hu hfr h) (cArg_ok hb' hu2 hfr h) hr hk)
    · cases hc
  | range t x =>
    simp only [cOp] at hc
    split at hc
    · rename_i ht
      simp only [Option.map_eq_some_iff] at hc
      obtain ⟨a, ha, rfl⟩ := hc
      simp only [gopM, Option.bind_eq_some_iff] at hM
      obtain ⟨u, hu, hM⟩ := hM
      have hv := cArg_ok ha hu hfr h
      split at hM
      · cases hM
        have hq := hv.str_inv
        show MOk P base lim ι H w _ _ (do pure (.value (← Instr.range t (act.eval x))))
        rw [hq]
        exact rng_ok h (hn rfl) ht
      · cases hM
    · cases hc
  | next x b =>
    cases b with
    | true =>
      simp only [cOp, Option.map_eq_some_iff] at hc
      obtain ⟨a, ha, rfl⟩ := hc
      cases hM
    | false => simp [cOp] at hc
  | extract x k =>
    simp only [cOp, Option.map_eq_some_iff] at hc
    obtain ⟨a, ha, rfl⟩ := hc
    simp only [gopM, Option.bind_eq_some_iff] at hM
    obtain ⟨u, hu, hM⟩ := hM
    have hv := cArg_ok ha hu hfr h
    split at hM
    · rename_i vs
      simp only [Option.map_eq_some_iff, Prod.mk.injEq] at hM
      obtain ⟨r, hr, rfl, rfl⟩ := hM
      obtain ⟨ds, hds, hrel⟩ := hv.tup_inv
      obtain ⟨r', q1, q2⟩ := hrel.2 k r (by simpa using hr)
      refine one h ⟨r', ?_, q2⟩
      rw [hds]
      have : ds[k]? = some r' := by simpa using q1
      simp [Instr.extract, this]
    · cases hM
  | call c =>
    obtain ⟨callee, args, ts⟩ := c
    cases callee with
    | value f =>
      simp only [cOp] at hc
      split at hc
      · cases hc; cases hM
      · cases hc
    | invoke r m => simp [cOp] at hc
    | builtin b =>
      cases b with
      | cap =>
        simp only [cOp] at hc
        split at hc <;> first | contradiction | skip
        rename_i X hl
        obtain ⟨x, r, hx, hX, hr0⟩ := args_cons hl
        split at hc
        · rename_i e hd
          cases hc
          obtain ⟨t, ht, hd⟩ := lookupD ts P hd
          simp only [gopM, Option.bind_eq_some_iff, Option.map_eq_some_iff, Prod.mk.injEq] at hM
          obtain ⟨u, hu, r', hr', rfl, rfl⟩ := hM
          have hv := cArg_ok hX hu hfr h
          have hargs : args.map act.eval = (act.eval x :: r.map act.eval).toArray := by apply Array.ext'; simp [hx]
          refine one h (s := Builtin.cap_ ts ty (args.map act.eval)) ⟨r', ?_, ?_⟩
          · unfold gcap at hr'
            split at hr'
            · cases hr'
              obtain ⟨_, _, hq⟩ := hv.slN_inv
              rw [hargs, hq]
              simp [Builtin.cap_, ht, run_underlying hd, goInt]
            · rename_i a n c _
              cases hr'
              rw [hargs]
              cases a with
              | none => obtain ⟨_, hq, _⟩ := hv.slN_inv; cases hq
              | some a =>
                have : ∃ b, act.eval x = .slice (some b) n c := by
                  generalize act.eval x = q at hv
                  cases hv with
                  | lit hl => simp [litFlat] at hl
                  | slV hg => obtain rfl : c = 0 := by omega
                              exact ⟨_, rfl⟩
                  | @sl i o n gc c' l hl hn hg hb =>
                    obtain rfl : c' = c := by omega
                    exact ⟨_, rfl⟩
                obtain ⟨b, hq⟩ := this
                rw [hq]
                simp [Builtin.cap_, ht, run_underlying hd, goInt]
            · cases hr'
          · unfold gcap at hr'
            split at hr' <;> cases hr' <;> exact .lit rfl
        · cases hc
      | len =>
        simp only [cOp] at hc
        split at hc <;> first | contradiction | skip
        rename_i X hl
        obtain ⟨x, r, hx, hX, hr0⟩ := args_cons hl
        have hargs : args.map act.eval = (act.eval x :: r.map act.eval).toArray := by apply Array.ext'; simp [hx]
        split at hc
        · rename_i hd
          cases hc
          obtain ⟨t, ht, hd⟩ := lookupD ts P hd
          simp only [gopM, Option.bind_eq_some_iff, Option.map_eq_some_iff, Prod.mk.injEq] at hM
          obtain ⟨u, hu, r', hr', rfl, rfl⟩ := hM
          have hv := cArg_ok hX hu hfr h
          refine one h (s := Builtin.len_ ts ty (args.map act.eval)) ?_
          rw [hargs]
          exact glen_ok (by simpa using hd) ht hv hr'
        · rename_i e hd
          cases hc
          obtain ⟨t, ht, hd⟩ := lookupD ts P hd
          simp only [gopM, Option.bind_eq_some_iff, Option.map_eq_some_iff, Prod.mk.injEq] at hM
          obtain ⟨u, hu, r', hr', rfl, rfl⟩ := hM
          have hv := cArg_ok hX hu hfr h
          refine one h (s := Builtin.len_ ts ty (args.map act.eval)) ?_
          rw [hargs]
          exact glen_ok (by simpa using ⟨e, hd⟩) ht hv hr'
        · rename_i n e hd
          cases hc
          obtain ⟨t, ht, hd⟩ := lookupD ts P hd
          cases hM
          refine one h (s := Builtin.len_ ts ty (args.map act.eval)) ⟨.int .i64 n, ?_, .lit rfl⟩
          rw [hargs]
          simp [Builtin.len_, ht, run_underlying hd, goInt]
        · cases hc
      | min =>
        simp only [cOp] at hc
        split at hc <;> first | contradiction | skip
        rename_i X R hl
        cases hc
        obtain ⟨x, r, hx, hX, hR⟩ := args_cons hl
        have hargs : args.map act.eval = (act.eval x :: r.map act.eval).toArray := by apply Array.ext'; simp [hx]
        simp only [gopM, Option.bind_eq_some_iff, Option.map_eq_some_iff, Prod.mk.injEq] at hM
        obtain ⟨u, hu, l, hl', r', hr', rfl, rfl⟩ := hM
        obtain ⟨q, q1, q2⟩ := gfold_ok (P := P) (w := w) (f := Builtin.min2) (fun _ _ _ _ _ a b c => gmin2_ok a b c) l _ u _ r' (cArgs_ok hfr h _ _ _ hR hl') (cArg_ok hX hu hfr h) hr'
        refine one h (s := Builtin.min_ ts ty (args.map act.eval)) ⟨q, ?_, q2⟩
        rw [hargs]
        simpa [Builtin.min_] using q1
      | max =>
        simp only [cOp] at hc
        split at hc <;> first | contradiction | skip
        rename_i X R hl
        cases hc
        obtain ⟨x, r, hx, hX, hR⟩ := args_cons hl
        have hargs : args.map act.eval = (act.eval x :: r.map act.eval).toArray := by apply Array.ext'; simp [hx]
        simp only [gopM, Option.bind_eq_some_iff, Option.map_eq_some_iff, Prod.mk.injEq] at hM
        obtain ⟨u, hu, l, hl', r', hr', rfl, rfl⟩ := hM
        obtain ⟨q, q1, q2⟩ := gfold_ok (P := P) (w := w) (f := Builtin.max2) (fun _ _ _ _ _ a b c => gmax2_ok a b c) l _ u _ r' (cArgs_ok hfr h _ _ _ hR hl') (cArg_ok hX hu hfr h) hr'
        refine one h (s := Builtin.max_ ts ty (args.map act.eval)) ⟨q, ?_, q2⟩
        rw [hargs]
        simpa [Builtin.max_] using q1
      | append =>
        simp only [cOp] at hc
        exfalso
        revert hM
        revert hc
        (repeat' split) <;> first | contradiction | (intro hc; cases hc; simp [gopM]; done) | (intro hc; cases hc; done)
      | copy =>
        simp only [cOp] at hc
        exfalso
        revert hM
        revert hc
        (repeat' split) <;> first | contradiction | (intro hc; cases hc; simp [gopM]; done) | (intro hc; cases hc; done)
      | _ =>
        simp only [cOp] at hc
        exfalso
        revert hc
        (repeat' split) <;> first | contradiction | simp
  | _ => simp [cOp] at hc
end
end
end Go.Gh
