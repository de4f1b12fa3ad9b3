/-
  Operators, comparisons, slices, lengths: in the world as over the ghost heap.
-/
import Derived.Test.YtfcbdkbdalbjmaaGhC
import Derived.ChangeKeysEq
import Derived.Laws.StructEq
namespace Go.Gh
set_option linter.unusedVariables false
set_option linter.unusedSimpArgs false
open Go.RowKit

section
variable {P : Program} {base lim : Nat} {ι : Inj} {H : GHeap} {w : World}

theorem eqFields_ok {D d : Nat} (IH : ∀ (d : Nat) (q : EqK) (t : TypeId) (x y x' y' : Value) (b : Bool), eqK P D t = some q → geqIn d q x y = some b → VR ι x x' → VR ι y y' → ∀ m, D ≤ m → (Op.equalIn m t x' y').run P w = .ok b w)
    {xs ys xs' ys' : Array Value} (hx : VRs ι xs.toList xs'.toList) (hy : VRs ι ys.toList ys'.toList) : ∀ (fs : List Field) (l : List (Nat × Option Nat × EqK)) (b : Bool),
    eqFields P (eqK P D) fs = some l → geqAll (geqIn d) l xs ys = some b → ∀ m, D ≤ m → (Op.eqFields m xs' ys' fs).run P w = .ok b w
  | [], l, b, h, hb, m, hm => by
    cases h; cases hb; rfl
  | f :: fs, l, b, h, hb, m, hm => by
    simp only [eqFields] at h
    simp only [Op.eqFields]
    split at h
    · rename_i hn
      rw [if_neg (by simpa using hn)]
      exact eqFields_ok IH hx hy fs l b h hb m hm
    · rename_i hn
      rw [if_pos hn]
      split at h
      · rename_i k q r hk hq hr
        cases h
        simp only [geqAll] at hb
        split at hb
        · rename_i a c ha hc
          obtain ⟨a', p1, p2⟩ := gpart_ok (w := w) hk hx ha
          obtain ⟨c', p3, p4⟩ := gpart_ok (w := w) hk hy hc
          cases hg : geqIn d q a c with
          | none => rw [hg] at hb; cases hb
          | some z =>
            rw [hg] at hb
            have he := IH d q f.type a c a' c' z hq hg p2 p4 m hm
            cases z
            · simp only at hb; cases hb; simp [p1, p3, he]
            · simp only at hb
              have := eqFields_ok IH hx hy fs r b hr hb m hm
              simp [p1, p3, he, this]
        · cases hb
      · cases h
theorem eqItems_ok {D d s : Nat} (IH : ∀ (d : Nat) (q : EqK) (t : TypeId) (x y x' y' : Value) (b : Bool), eqK P D t = some q → geqIn d q x y = some b → VR ι x x' → VR ι y y' → ∀ m, D ≤ m → (Op.equalIn m t x' y').run P w = .ok b w)
    {xs ys xs' ys' : Array Value} (hx : VRs ι xs.toList xs'.toList) (hy : VRs ι ys.toList ys'.toList) {e : TypeId} {k : Option Nat} {q : EqK} (hk : ldK P e = some k) (hq : eqK P D e = some q) : ∀ (is : List Nat) (b : Bool),
    geqAll (geqIn d) (is.map fun i => (i * s, k, q)) xs ys = some b → ∀ m, D ≤ m → (Op.eqItems m e s xs' ys' is).run P w = .ok b w
  | [], b, hb, m, hm => by
    simp [geqAll] at hb; subst hb; rfl
  | i :: is, b, hb, m, hm => by
    simp only [List.map_cons, geqAll] at hb
    simp only [Op.eqItems]
    split at hb
    · rename_i a c ha hc
      obtain ⟨a', p1, p2⟩ := gpart_ok (w := w) hk hx ha
      obtain ⟨c', p3, p4⟩ := gpart_ok (w := w) hk hy hc
      cases hg : geqIn d q a c with
      | none => rw [hg] at hb; cases hb
      | some z =>
        rw [hg] at hb
        have he := IH d q e a c a' c' z hq hg p2 p4 m hm
        cases z
        · simp only at hb; cases hb; simp [p1, p3, he]
        · simp only at hb
          have := eqItems_ok IH hx hy hk hq is b hb m hm
          simp [p1, p3, he, this]
    · cases hb
theorem geqIn_parts {d : Nat} {l : List (Nat × Option Nat × EqK)} {x y : Value} {b : Bool} (h : geqIn d (.parts l) x y = some b) : ∃ d' xs ys, d = d' + 1 ∧ x = .agg xs ∧ y = .agg ys ∧ geqAll (geqIn d') l xs ys = some b := by
  unfold geqIn at h
  split at h <;> simp_all
theorem geqIn_bool {d : Nat} {x y : Value} {b : Bool} (h : geqIn d .bool x y = some b) : ∃ p q, x = .bool p ∧ y = .bool q ∧ b = (p == q) := by
  unfold geqIn at h
  split at h <;> simp_all
theorem geqIn_int {d : Nat} {x y : Value} {b : Bool} (h : geqIn d .int x y = some b) : ∃ k p q, x = .int k p ∧ y = .int k q ∧ b = (p == q) := by
  cases x <;> first | (unfold geqIn at h; simp at h; done) | skip
  cases y <;> first | (unfold geqIn at h; simp at h; done) | skip
  rename_i k p k' q
  unfold geqIn at h
  simp only [Option.ite_none_right_eq_some, Option.some.injEq] at h
  obtain ⟨rfl, rfl⟩ := h
  exact ⟨_, _, _, rfl, rfl, rfl⟩
theorem geqIn_str {d : Nat} {x y : Value} {b : Bool} (h : geqIn d .str x y = some b) : ∃ p q, x = .string p ∧ y = .string q ∧ b = (p == q) := by
  unfold geqIn at h
  split at h <;> simp_all
theorem geqIn_ptr {d : Nat} {x y : Value} {b : Bool} (h : geqIn d .ptr x y = some b) : (x = .pointer none ∧ ∃ q, y = .pointer q ∧ b = q.isNone) ∨ (∃ p, x = .pointer (some p) ∧ y = .pointer none ∧ b = false) := by
  unfold geqIn at h
  split at h <;> simp_all
theorem geqIn_sl {d : Nat} {x y : Value} {b : Bool} (h : geqIn d .sl x y = some b) : (∃ n c q n' c', x = .slice none n c ∧ y = .slice q n' c' ∧ b = q.isNone) ∨ (∃ p n c n' c', x = .slice (some p) n c ∧ y = .slice none n' c' ∧ b = false) := by
  unfold geqIn at h
  split at h <;> simp_all
theorem geqIn_fn {d : Nat} {x y : Value} {b : Bool} (h : geqIn d .fn x y = some b) : (x = .nilFunc ∧ y = .nilFunc ∧ b = true) ∨ (x = .nilFunc ∧ (∃ f p q, y = .func f p q) ∧ b = false) ∨ ((∃ f p q, x = .func f p q) ∧ y = .nilFunc ∧ b = false) := by
  unfold geqIn at h
  split at h <;> simp_all
theorem geqIn_map {d : Nat} {x y : Value} {b : Bool} (h : geqIn d .map x y = some b) : (x = .map none ∧ ∃ q, y = .map q ∧ b = q.isNone) ∨ (∃ p, x = .map (some p) ∧ y = .map none ∧ b = false) := by
  unfold geqIn at h
  split at h <;> simp_all
theorem VR.nilFunc_inv {v' : Value} (h : VR ι .nilFunc v') : v' = .nilFunc := by cases h; rfl
theorem VR.mapN_inv {v' : Value} (h : VR ι (.map none) v') : v' = .map none := by cases h; rfl
theorem VR.mapS_inv {p : Nat} {v' : Value} (h : VR ι (.map (some p)) v') : False := by cases h; simp [litFlat] at *
theorem geqIn_ok : ∀ (D d : Nat) (q : EqK) (t : TypeId) (x y x' y' : Value) (b : Bool), eqK P D t = some q → geqIn d q x y = some b → VR ι x x' → VR ι y y' → ∀ m, D ≤ m → (Op.equalIn m t x' y').run P w = .ok b w := by
  intro D
  induction D with
  | zero => intro d q t x y x' y' b h; cases h
  | succ D IH =>
    intro d q t x y x' y' b h hb hx hy m hm
    obtain ⟨m, rfl⟩ : ∃ k, m = k + 1 := ⟨m - 1, by omega⟩
    simp only [eqK] at h
    split at h
    · rename_i hu
      cases h
      obtain ⟨p, q, rfl, rfl, rfl⟩ := geqIn_bool hb
      obtain rfl := hx.bool_inv; obtain rfl := hy.bool_inv
      simp [Op.equalIn, run_underlying hu]
    · rename_i hu
      cases h
      obtain ⟨k, p, q, rfl, rfl, rfl⟩ := geqIn_int hb
      obtain rfl := hx.int_inv; obtain rfl := hy.int_inv
      simp [Op.equalIn, run_underlying hu]
    · rename_i hu
      cases h
      obtain ⟨p, q, rfl, rfl, rfl⟩ := geqIn_str hb
      obtain rfl := hx.str_inv; obtain rfl := hy.str_inv
      simp [Op.equalIn, run_underlying hu]
    · rename_i hu
      cases h
      rcases geqIn_ptr hb with ⟨rfl, q, rfl, rfl⟩ | ⟨p, rfl, rfl, rfl⟩
      · obtain rfl := hx.ptrN_inv
        cases q with
        | none => obtain rfl := hy.ptrN_inv; simp [Op.equalIn, run_underlying hu]
        | some q => obtain ⟨q', rfl⟩ := hy.ptrS_inv; simp [Op.equalIn, run_underlying hu]
      · obtain ⟨p', rfl⟩ := hx.ptrS_inv
        obtain rfl := hy.ptrN_inv
        simp [Op.equalIn, run_underlying hu]
    · rename_i hu
      cases h
      rcases geqIn_sl hb with ⟨n, c, q, n', c', rfl, rfl, rfl⟩ | ⟨p, n, c, n', c', rfl, rfl, rfl⟩
      · obtain ⟨rfl, rfl, rfl⟩ := hx.slN_inv
        cases q with
        | none => obtain ⟨rfl, rfl, rfl⟩ := hy.slN_inv; simp [Op.equalIn, run_underlying hu]
        | some q => obtain ⟨_, _, rfl⟩ := hy.slS_inv; simp [Op.equalIn, run_underlying hu]
      · obtain ⟨_, _, rfl⟩ := hx.slS_inv
        obtain ⟨rfl, rfl, rfl⟩ := hy.slN_inv
        simp [Op.equalIn, run_underlying hu]
    · rename_i hu
      cases h
      rcases geqIn_fn hb with ⟨rfl, rfl, rfl⟩ | ⟨rfl, ⟨f, p, q, rfl⟩, rfl⟩ | ⟨⟨f, p, q, rfl⟩, rfl, rfl⟩
      · obtain rfl := hx.nilFunc_inv; obtain rfl := hy.nilFunc_inv; simp [Op.equalIn, run_underlying hu]
      · obtain rfl := hx.nilFunc_inv; obtain ⟨_, _, rfl, _, _⟩ := hy.func_inv; simp [Op.equalIn, run_underlying hu]
      · obtain rfl := hy.nilFunc_inv; obtain ⟨_, _, rfl, _, _⟩ := hx.func_inv; simp [Op.equalIn, run_underlying hu]
    · rename_i hu
      cases h
      rcases geqIn_map hb with ⟨rfl, q, rfl, rfl⟩ | ⟨p, rfl, rfl, rfl⟩
      · obtain rfl := hx.mapN_inv
        cases q with
        | none => obtain rfl := hy.mapN_inv; simp [Op.equalIn, run_underlying hu]
        | some q => exact hy.mapS_inv.elim
      · exact hx.mapS_inv.elim
    · rename_i fs hu
      split at h
      · cases h
      · rename_i hst
        simp only [Option.map_eq_some_iff] at h
        obtain ⟨l, hl, rfl⟩ := h
        obtain ⟨d', xs, ys, rfl, rfl, rfl, hb⟩ := geqIn_parts hb
        obtain ⟨xs', rfl, hxs⟩ := hx.agg_inv
        obtain ⟨ys', rfl, hys⟩ := hy.agg_inv
        have hfl : P.fieldsOf t = fs := by simp [Program.fieldsOf, hu]
        rw [run_equalIn_struct w m t xs' ys' (by rw [hfl]; exact hu) (by simpa using hst), hfl]
        exact eqFields_ok IH hxs hys fs.toList _ b hl hb m (by omega)
    · rename_i n e hu
      split at h
      · rename_i s k q' hs hk hq
        cases h
        obtain ⟨d', xs, ys, rfl, rfl, rfl, hb⟩ := geqIn_parts hb
        obtain ⟨xs', rfl, hxs⟩ := hx.agg_inv
        obtain ⟨ys', rfl, hys⟩ := hy.agg_inv
        unfold szK at hs
        cases hi : P.info? e with
        | none => rw [hi] at hs; cases hs
        | some i =>
          rw [hi] at hs
          cases hs
          have hc : P.cellsOf e = i.size := by simp [Program.cellsOf, hi]
          rw [run_equalIn_array w m xs' ys' hu hi, hc]
          exact eqItems_ok IH hxs hys hk hq _ b hb m (by omega)
      · cases h
    · cases h
theorem eqTopK_some {t : TypeId} {q : EqK} (h : eqTopK P t = some q) : eqK P 12 t = some q ∧ ((∃ l, q = .parts l) → P.eqGuardType P.depth t = false) := by
  unfold eqTopK at h
  split at h
  · rename_i l hl
    split at h
    · cases h
    · rename_i hg
      cases h
      exact ⟨hl, fun _ => by simpa using hg⟩
  · rename_i hq
    refine ⟨h, ?_⟩
    rintro ⟨l, rfl⟩
    exact absurd h (hq l)

theorem gbin_ok {op : BinOp} {t : TypeId} {X Y : Operand} {x y x' y' r : Value} (hx : VR ι x x') (hy : VR ι y y')
    (hr : gbin op (match op with | .eql | .neq => eqTopK P t | _ => none) x y = some r) : ∃ r', (do eqGuard op t X Y x' y'; binOp op t x' y').run P w = .ok r' w ∧ VR ι r r' := by
  have hguard : ∀ a b : Value, (∀ c d, ¬ (a = .agg c ∧ b = .agg d)) → ¬ (a = .nilIface ∧ b = .nilIface) → (eqGuard op t X Y a b).run P w = .ok () w := by
    intro a b h1 h2
    have key : ∀ (s1 s2 : Sem Unit), (match a, b with | .nilIface, .nilIface => s1 | .agg _, .agg _ => s2 | _, _ => pure ()).run P w = .ok () w := by
      intro s1 s2
      split
      · exact absurd ⟨rfl, rfl⟩ h2
      · exact absurd ⟨rfl, rfl⟩ (h1 _ _)
      · rfl
    cases op <;> first | rfl | exact key _ _
  have heq : ∀ (q : EqK) (z : Bool), (op = .eql ∨ op = .neq) → eqTopK P t = some q → geq q x y = some z → (eqGuard op t X Y x' y').run P w = .ok () w ∧ (Op.equal t x' y').run P w = .ok z w := by
    intro q z hop hq hg
    obtain ⟨h1, h2⟩ := eqTopK_some hq
    refine ⟨?_, geqIn_ok 12 12 q t x y x' y' z h1 hg hx hy _ (by unfold Op.maxDepth; omega)⟩
    by_cases hp : ∃ l, q = .parts l
    · have hgt := h2 hp
      obtain ⟨l, rfl⟩ := hp
      obtain ⟨d', xs, ys, _, rfl, rfl, _⟩ := geqIn_parts hg
      obtain ⟨xs', rfl, _⟩ := hx.agg_inv
      obtain ⟨ys', rfl, _⟩ := hy.agg_inv
      rcases hop with rfl | rfl <;> simp [eqGuard, hgt]
    · refine hguard _ _ ?_ ?_
      · rintro c d ⟨rfl, rfl⟩
        cases hx with
        | lit h => simp [litFlat] at h
        | agg => cases q <;> simp [geq, geqIn] at hg hp
      · rintro ⟨rfl, rfl⟩
        cases hx
        cases q <;> simp [geq, geqIn] at hg hp
  unfold gbin at hr
  split at hr
  · rename_i k a k' b
    obtain rfl := hx.int_inv; obtain rfl := hy.int_inv
    have hg := hguard (.int k a) (.int k' b) (by simp) (by simp)
    refine ⟨r, ?_, ?_⟩
    · cases op <;> simp only [gshift, gint] at hr <;> (try split at hr) <;> (try split at hr) <;> first
        | (cases hr; done)
        | (cases hr; clear heq hguard; simp_all [binOp, Op.shift, Op.intArith, Op.intDiv, Op.intBits, Op.intCmp]; done)
        | (rename_i hb; cases hr; clear heq hguard; simp only [Sem.run_bind, hg, Result.andThen_ok, binOp, Op.shift]; rw [if_neg hb]; rfl)
    · cases op <;> simp only [gshift, gint] at hr <;> (try split at hr) <;> (try split at hr) <;> first
        | (cases hr; done)
        | (cases hr; exact .lit rfl)
  · rename_i a b
    obtain rfl := hx.str_inv; obtain rfl := hy.str_inv
    have hg := hguard (.string a) (.string b) (by simp) (by simp)
    refine ⟨r, ?_, ?_⟩
    · cases op <;> simp only [gstr] at hr <;> (try split at hr) <;> first
        | (cases hr; done)
        | (cases hr; simp_all [binOp, Op.stringOp, IntKind.max, IntKind.signed, IntKind.bits]; done)
        | (cases hr; simp_all [binOp, Op.stringOp, IntKind.max, IntKind.signed, IntKind.bits]; omega)
    · cases op <;> simp only [gstr] at hr <;> (try split at hr) <;> first
        | (cases hr; done)
        | (cases hr; exact .lit rfl)
  · rename_i hni hns
    have hshape : ∀ q z, geq q x y = some z → (∀ k a, x' ≠ .int k a) ∧ (∀ k a, x' ≠ .float k a) ∧ (∀ k a b, x' ≠ .complex k a b) ∧ (∀ s, x' ≠ .string s) := by
      intro q z hz
      refine ⟨?_, ?_, ?_, ?_⟩ <;> intros <;> rintro rfl
      · cases hx
        cases q with
        | int => obtain ⟨_, _, _, e1, e2, _⟩ := geqIn_int hz; exact hni _ _ _ _ rfl e2
        | _ => simp [geq, geqIn] at hz
      · cases hx
        cases q <;> simp [geq, geqIn] at hz
      · cases hx
        cases q <;> simp [geq, geqIn] at hz
      · cases hx
        cases q with
        | str => obtain ⟨_, _, e1, e2, _⟩ := geqIn_str hz; exact hns _ _ rfl e2
        | _ => simp [geq, geqIn] at hz
    split at hr
    · rename_i q hop
      simp only [Option.map_eq_some_iff] at hr
      obtain ⟨z, hz, rfl⟩ := hr
      obtain ⟨h1, h2⟩ := heq q z (.inl rfl) hop hz
      obtain ⟨s1, s2, s3, s4⟩ := hshape q z hz
      refine ⟨.bool z, ?_, .lit rfl⟩
      simp only [Sem.run_bind, h1, Result.andThen_ok]
      unfold binOp
      split <;> simp_all
    · rename_i q hop
      simp only [Option.map_eq_some_iff] at hr
      obtain ⟨z, hz, rfl⟩ := hr
      obtain ⟨h1, h2⟩ := heq q z (.inr rfl) hop hz
      obtain ⟨s1, s2, s3, s4⟩ := hshape q z hz
      refine ⟨.bool !z, ?_, .lit rfl⟩
      simp only [Sem.run_bind, h1, Result.andThen_ok]
      unfold binOp
      split <;> simp_all
    · cases hr
end
end Go.Gh
