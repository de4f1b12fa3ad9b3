/-
  strings.Builder's String: the very world that it leaves.
-/
import Derived.Shelf.Strings.BuilderF
namespace Go.Proofs
set_option linter.unusedSimpArgs false
set_option linter.unusedVariables false
set_option maxHeartbeats 4000000
open Go.Shelf Go.RowKit
variable {P : Program} {ρ : Ren}

theorem liesAt_off {e : TypeId} (hc : P.cellsOf e = 1) (count o n : Nat) (hn : o + n ≤ count) : liesAt P P.depth e count o e n = true := by
  have hd : P.depth = (2 * (P.types.size + Made.depth) + 1) + 1 := rfl
  rw [hd]
  simp only [liesAt, Bool.or_eq_true]
  left
  rw [hd]
  simp [rowAt, hc, sameLayout]
  try omega
/-- unsafe.String of bytes anywhere in a row -/
theorem run_unsafeString_off {w : World} (pt it ty e : TypeId) (hp : P.underlying pt = some (.pointer e)) (hc : P.cellsOf e = 1) (g o cells : Nat) (hsh : w.shape? g = some (e, cells)) (l : List UInt8) (h0 : l ≠ []) (hn : o + l.length ≤ cells) (h63 : l.length ≤ 9223372036854775807)
    (hcell : ∀ j x, l[j]? = some x → w.cell? ((⟨g, o, none⟩ : Addr).add j) = some (.int .u8 x.toNat)) :
    (Builtin.unsafeString_ #[pt, it] ty #[.pointer (some ⟨g, o, none⟩), .int .i64 l.length]).run P w = .ok (.string ⟨l.toArray⟩) (w.freeze ⟨g, o, none⟩ l.length) := by
  have hl : l.length ≠ 0 := by simpa using h0
  have hlb := Lib.run_loadBytes (P := P) w l ⟨g, o, none⟩ .empty hcell
  have hlies := liesAt_off (P := P) hc (cells / P.cellsOf e) o l.length (by rw [hc]; simpa using hn)
  have h63' : ¬ (9223372036854775807 : Int) < (l.length : Int) := by omega
  have hneg : ¬ (l.length : Int) < 0 := by omega
  have hmax : IntKind.i64.max = 9223372036854775807 := rfl
  have hdef : ∀ n : Int, Builtin.unsafeString_ #[pt, it] ty #[.pointer (some ⟨g, o, none⟩), .int .i64 n] = (do
      let n ← asInt (.int .i64 n)
      if n < 0 then runtimePanic (.error "unsafe.String: len out of range")
      if n > IntKind.i64.max then unsupported (.unsafePointer "String: a length above the largest int")
      if n = 0 then pure (.string .empty)
      else if ← variablesAt ⟨g, o, none⟩ (← elemOf pt) n.toNat then do
        let s ← loadBytes ⟨g, o, none⟩ .empty n.toNat
        freeze ⟨g, o, none⟩ n.toNat
        pure (.string s)
      else unsupported (.unsafePointer "String: not so many bytes at ptr")) := fun _ => rfl
  rw [hdef]
  simp [asInt, asIntOf, hmax, h63', hneg, hl, variablesAt, hsh, elemOf, run_underlying hp, hlies, hlb]
set_option maxHeartbeats 2000000 in
set_option maxRecDepth 100000 in
theorem string_exact (L : Lays.n169 P ρ) (X : Builder.Extra P ρ) (b g o cap : Nat) (l : List UInt8) (cur : Array Value) (fz : Nat × Nat) (w : World) (h0 : l ≠ []) (hcap : cap ≠ 0)
    (c1' : w.cell? ⟨b, 1, none⟩ = some (.slice (some ⟨g, o, none⟩) l.length cap)) (hg : w.heap[g]? = some (.cells cur (ρ.t 5) fz)) (hn : o + l.length ≤ cur.size) (h63 : l.length ≤ 9223372036854775807)
    (hcells : ∀ j x, l[j]? = some x → w.cell? ⟨g, o + j, none⟩ = some (.int .u8 x.toNat)) :
    Calls P (ρ.f 169) #[.pointer (some ⟨b, 0, none⟩)] w fun e w' => e = .returned (.string ⟨l.toArray⟩) ∧ w' = w.drew.freeze ⟨g, o, none⟩ l.length := by
  have hl0 : l.length ≠ 0 := by simpa using h0
  have c1 : w.drew.cell? ⟨b, 1, none⟩ = some (.slice (some ⟨g, o, none⟩) l.length cap) := c1'
  have hSD : (Builtin.unsafeSliceData_ #[(ρ.t 37)] (ρ.t 127) #[.slice (some ⟨g, o, none⟩) l.length cap]).run P w.drew = .ok (.pointer (some ⟨g, o, none⟩)) w.drew :=
    Lib.run_unsafeSliceData_row _ _ _ _ _ _ hcap
  have hUS : (Builtin.unsafeString_ #[(ρ.t 127), (ρ.t 3)] (ρ.t 9) #[.pointer (some ⟨g, o, none⟩), .int .i64 l.length]).run P w.drew = .ok (.string ⟨l.toArray⟩) (w.drew.freeze ⟨g, o, none⟩ l.length) := by
    refine run_unsafeString_off (ρ.t 127) (ρ.t 3) (ρ.t 9) (ρ.t 5) L.t127 X.cellsByte g o cur.size (by have hg' : w.drew.heap[g]? = some (.cells cur (ρ.t 5) fz) := hg; simp [World.shape?, hg']) l h0 hn h63 ?_
    intro j x hx
    have := hcells j x hx
    unfold Addr.add
    by_cases hj : j = 0
    · subst hj; simpa using this
    · simp [hj]; exact this
  have mixed := L.mixed
  have t72 := L.t72; have a72 := L.a72; have z72 := L.z72; have v72 := L.v72; have u72 := run_underlying L.t72
  have t70 := L.t70; have a70 := L.a70; have z70 := L.z70; have v70 := L.v70; have u70 := run_underlying L.t70
  have t37 := L.t37; have a37 := L.a37; have z37 := L.z37; have v37 := L.v37; have u37 := run_underlying L.t37
  have t127 := L.t127; have a127 := L.a127; have z127 := L.z127; have v127 := L.v127; have u127 := run_underlying L.t127
  have t3 := L.t3; have a3 := L.a3; have z3 := L.z3; have v3 := L.v3; have u3 := run_underlying L.t3
  have t9 := L.t9; have a9 := L.a9; have z9 := L.z9; have v9 := L.v9; have u9 := run_underlying L.t9
  have t5 := X.t5; have a5 := X.a5; have z5 := X.z5; have v5 := X.v5; have u5 := run_underlying X.t5
  go_enter L.f169, Body.n169_ntmps ρ
  go_wp2
  go_region_o
  all_goals (go_wp2; go_ret; exact ⟨rfl, rfl⟩)
set_option maxHeartbeats 2000000 in
set_option maxRecDepth 100000 in
theorem string_nil_exact (L : Lays.n169 P ρ) (X : Builder.Extra P ρ) (b : Nat) (w : World) (c1' : w.cell? ⟨b, 1, none⟩ = some (.slice none 0 0)) :
    Calls P (ρ.f 169) #[.pointer (some ⟨b, 0, none⟩)] w fun e w' => e = .returned (.string .empty) ∧ w' = w.drew := by
  have c1 : w.drew.cell? ⟨b, 1, none⟩ = some (.slice none 0 0) := c1'
  have hSD : (Builtin.unsafeSliceData_ #[(ρ.t 37)] (ρ.t 127) #[.slice none 0 0]).run P w.drew = .ok (.pointer none) w.drew := Lib.run_unsafeSliceData_nil _ _ _ _ _
  have hUS : (Builtin.unsafeString_ #[(ρ.t 127), (ρ.t 3)] (ρ.t 9) #[.pointer none, .int .i64 0]).run P w.drew = .ok (.string .empty) w.drew := Lib.run_unsafeString_none _ _ _ _ _
  have mixed := L.mixed
  have t72 := L.t72; have a72 := L.a72; have z72 := L.z72; have v72 := L.v72; have u72 := run_underlying L.t72
  have t70 := L.t70; have a70 := L.a70; have z70 := L.z70; have v70 := L.v70; have u70 := run_underlying L.t70
  have t37 := L.t37; have a37 := L.a37; have z37 := L.z37; have v37 := L.v37; have u37 := run_underlying L.t37
  have t127 := L.t127; have a127 := L.a127; have z127 := L.z127; have v127 := L.v127; have u127 := run_underlying L.t127
  have t3 := L.t3; have a3 := L.a3; have z3 := L.z3; have v3 := L.v3; have u3 := run_underlying L.t3
  have t9 := L.t9; have a9 := L.a9; have z9 := L.z9; have v9 := L.v9; have u9 := run_underlying L.t9
  have t5 := X.t5; have a5 := X.a5; have z5 := X.z5; have v5 := X.v5; have u5 := run_underlying X.t5
  go_enter L.f169, Body.n169_ntmps ρ
  go_wp2
  go_region_o
  all_goals (go_wp2; go_ret; exact ⟨rfl, rfl⟩)
end Go.Proofs
