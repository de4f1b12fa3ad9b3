/-
  Proved: 'captioner/captionerlaw55.JournalDamage' returns true for every input and leaves its arguments as they were. No condition.
-/
import Derived.Test.YtbficpmoppailaaRows
import Derived.Test.YtbficpmoppailaaJnLD
import Derived.Test.YtbficpmoppailaaJnTie
import Derived.Below
import Derived.WalkKit
import Derived.ProofKit
import Derived.OpenShut
import Derived.ShutString
import Derived.ChangeOld
import Derived.SizedLaws
namespace Go.Proofs.Ytbficpmoppailaa.journalDamage
open Go.ChangeShapes Go.WideShapes Go.ChangeAt Go.RowKit
set_option linter.unusedVariables false
set_option linter.unusedSimpArgs false

theorem own : ownKnob Try.prog.godebug = none := by kernel_rfl
theorem laidOut : laidOutB Try.prog = true := by kernel_rfl
set_option maxRecDepth 100000 in
theorem lifted (os : Os) (started : os.Started) (H : Type) (enc : TypeId × Value → H) :
    ReturnsInHanded {} Try.checked os 6 .any (Rows.journalDamageSpec.pre6 enc Try.prog Try.f6 Rows.journalDamageRow.domain false) (Rows.journalDamageSpec.post enc Try.prog Try.f6 false true false false) := by
  refine returnsInHanded_of_change_sized (C := Try.checked) own started (by kernel_rfl) Try.func6
    (ChangeSpec.witness6 (enc := enc) (C := Try.checked) false ⟨#[], #[.int .u8 0, .int .u16 0, .slice none 0 0], []⟩ 8 (by kernel_rfl) (by kernel_rfl) (by kernel_rfl) (by kernel_rfl)) ?_
  intro W base args ds gs before hval0 hW hcnd hsz0 _
  have hval : ∀ (j : Nat) t v, Try.f6.params[j]? = some t → args[j]? = some v → Value.okWide Try.prog W .any base t v := hval0
  have hW' := hW
  obtain ⟨p, q, hA0, hV, rfl, hfz, hnd⟩ := hW
  have hA : DataW.TrodAll enc Try.prog W 0 (fun _ => true) true Try.f6.params.toList args.toList ds p := hA0
  have hlt : ∀ (j : Nat) t v, Try.f6.params.toList[j]? = some t → args.toList[j]? = some v → Value.okWide Try.prog W .any base t v := fun j t v h1 h2 => hval j t v (by simpa using h1) (by simpa using h2)
  have hcalls := Go.Gh.law_shp gbyte gmix gok (f := 6) rfl 6 hA hlt (Go.Gh.sized_each hsz0) (ss := [.int .u8, .int .u16, .sl (.int .u8)]) (by kernel_rfl) (Go.Gh.opn_nil (fun _ => rfl) W) fun H' gvs _ hw h => Go.Gh.damage_law hw h
  rw [Array.toArray_toList] at hcalls
  obtain ⟨rfl, rfl⟩ := trodVars_none hV
  have hS := fun W' (bel : Below W.heap.size W W') => Go.Gh.shut_args laidOut bel _ _ _ _ hA (by kernel_rfl)
  rw [Try.params6] at hA
  obtain ⟨v0, vs0, d0, ds0, p0, q0, hargs0, rfl, rfl, h0, hA⟩ := trodAll_cons hA
  obtain ⟨v1, vs1, d1, ds1, p1, q1, hargs1, rfl, rfl, h1, hA⟩ := trodAll_cons hA
  obtain ⟨v2, vs2, d2, ds2, p2, q2, hargs2, rfl, rfl, h2, hA⟩ := trodAll_cons hA
  obtain ⟨_, rfl, rfl⟩ := trodAll_nil hA
  refine hcalls.mono fun e W' ⟨he, bel⟩ => ?_
  subst he
  exact ⟨_, rfl, _, _, _, [], _, [], hW', trodAll_mk1 (shut_bool Try.underlying4 _), hS _ bel, rfl, bel.frame _, fun h => by cases h⟩

theorem over : Rows.journalDamageRow.holds Try.pinned (OpenSpec.ofChange Rows.journalDamageSpec) :=
  OpenClaim.holds_of_wide 6 Try.f6 rfl rfl rfl rfl rfl rfl rfl ⟨rfl, rfl, rfl, rfl, rfl⟩ rfl rfl rfl rfl rfl (by kernel_rfl) Try.func6 (by kernel_rfl)
    (of_decide_eq_true (by kernel_rfl)) (by unfold Func.isWrapper; first | (rw [if_pos (by decide +kernel)]; kernel_rfl) | (rw [if_neg (by decide +kernel)]; exact ⟨rfl, rfl⟩))
    (fun os started H enc _ => lifted os started H enc)

theorem proved : Rows.JournalDamageSaid := over
#print axioms proved
end Go.Proofs.Ytbficpmoppailaa.journalDamage
