/-
  Proved: 'captioner/captionertop.TopCarriedTape' returns true for every input of bulk at most 1048576 and leaves its arguments as they were: the row and its tied card. Conditions: the package-level tables unicode/utf8.first and acceptRanges hold what they are laid as (the card ties that).
-/
import Derived.Test.YtjjcgaompnjbdaaGreatDoorRows
import Derived.Test.YtjjcgaompnjbdaaGreatDoorCards
import Derived.Test.YtjjcgaompnjbdaaGreatDoorTie
import Derived.Test.YtjjcgaompnjbdaaGreatDoorQ14
import Derived.Test.YtjjcgaompnjbdaaGreatDoorCtTie
import Derived.Lib.LaidIn
import Derived.Lib.LaidU8T
import Derived.Deep.DeepHandedRow
import Derived.Deep.DeepWitnessRowRef
import Derived.ProofKit
import Derived.SizedLaws
import Derived.OpenShut
import Derived.ShutString
import Derived.SevenTiedAt
import Derived.Shelf.Vars
namespace Go.Proofs.YtjjcgaompnjbdaaGreatDoor.topCarriedTapeUpto
open Go.Shelf Go.ChangeShapes Go.WideShapes Go.ChangeAt Go.RowKit Go.Lib
set_option linter.unusedVariables false
set_option linter.unusedSimpArgs false

theorem own : ownKnob Tryz.prog.godebug = none := by kernel_rfl
theorem laidOut : laidOutB Tryz.prog = true := by kernel_rfl
/-- the cells of a laid table of numbers -/
def litV : DataW Unit → Value
  | .lit (.int k n) => .int k n
  | _ => .tuple #[]
def tabV : DataW Unit → Array Value
  | .agg l => (l.map litV).toArray
  | _ => #[]
/-- the witness's world: the tables as they are laid -/
noncomputable def laidWorld (os : Os) : World :=
  let w0 := World.holding Tryz.prog os ⟨#[], #[], []⟩
  let put (h : Array Obj) (g : Nat) (cs : Array Value) : Array Obj := h.modify g fun
    | .cells _ t frozen => .cells cs t frozen
    | o => o
  let h1 := put w0.heap 0 (Lib.firstTab.map fun z => Value.int .u8 z).toArray
  let h2 := put h1 1 ((List.range 16).flatMap fun i => [Value.int .u8 (Lib.accLo i), Value.int .u8 (Lib.accHi i)]).toArray
  let h3 := put h2 4 (tabV Rows.laid_math_bits_deBruijn32tab)
  let h4 := put h3 5 (tabV Rows.laid_math_bits_deBruijn64tab)
  let h5 := put h4 3 (tabV Rows.laid_internal_strconv_uint64pow10)
  { w0 with heap := h5 }
theorem laid_met (os : Os) (args : Array Value) : laidMet Tryz.prog Rows.topCarriedTapeUptoRow.laid ((laidWorld os).forCall (fun _ _ => 0) ⟨#[], args, []⟩).memory :=
  (LaidIn.of_run (l := Rows.topCarriedTapeUptoRow.laid) [4, 5, 3, 1, 0] 8 (by kernel_rfl) (by kernel_rfl) (by kernel_rfl) (by kernel_rfl)).met
theorem bulk_one {H : Type} (d : DataW H) : 1 ≤ Rows.uptoBulk d := by
  cases d with
  | lit l => cases l <;> simp [Rows.uptoBulk]
  | _ => simp [Rows.uptoBulk]
theorem bulk_len {H : Type} : ∀ (l : List (DataW H)), l.length ≤ Rows.uptoBulkAll l
  | [] => by simp
  | d :: r => by
    have h1 := bulk_one d
    have h2 := bulk_len r
    simp only [Rows.uptoBulkAll, List.length_cons]; omega
theorem bulk_mem {H : Type} {d : DataW H} : ∀ {l : List (DataW H)}, d ∈ l → Rows.uptoBulk d ≤ Rows.uptoBulkAll l
  | x :: r, h => by
    simp only [Rows.uptoBulkAll]
    rcases List.mem_cons.1 h with rfl | h
    · omega
    · have := bulk_mem h; omega
mutual
theorem dims_le {H : Type} : ∀ (d : DataW H) (m : Nat), m ∈ Go.Gh.dims d → m ≤ Rows.uptoBulk d
  | .lit l, m, h => by cases l <;> simp [Go.Gh.dims] at h <;> simp [Rows.uptoBulk] <;> omega
  | .nil, m, h => by simp [Go.Gh.dims] at h; omega
  | .ptr d, m, h => by
    have := dims_le d m (by simpa [Go.Gh.dims] using h)
    simp only [Rows.uptoBulk]; omega
  | .slice e s, m, h => by
    simp only [Go.Gh.dims, List.mem_cons, List.mem_append] at h
    simp only [Rows.uptoBulk]
    rcases h with h | h | h
    · have := bulk_len e; omega
    · have := dimsAll_le e m h; omega
    · have := dimsAll_le s m h; omega
  | .agg p, m, h => by
    have := dimsAll_le p m (by simpa [Go.Gh.dims] using h)
    simp only [Rows.uptoBulk]; omega
  | .iface t d, m, h => by
    have := dims_le d m (by simpa [Go.Gh.dims] using h)
    simp only [Rows.uptoBulk]; omega
  | .map l, m, h => by simp [Go.Gh.dims] at h
  | .held x, m, h => by simp [Go.Gh.dims] at h
theorem dimsAll_le {H : Type} : ∀ (l : List (DataW H)) (m : Nat), m ∈ Go.Gh.dimsAll l → m ≤ Rows.uptoBulkAll l
  | [], m, h => by simp [Go.Gh.dimsAll] at h
  | d :: r, m, h => by
    simp only [Go.Gh.dimsAll, List.mem_append] at h
    simp only [Rows.uptoBulkAll]
    rcases h with h | h
    · have := dims_le d m h; omega
    · have := dimsAll_le r m h; omega
end
theorem witness_row (os : Os) {H : Type} (enc : TypeId × Value → H) :
    (Rows.OpenSpec.upto Rows.topCarriedTapeSpec).preRow enc Tryz.prog Tryz.f4 Rows.topCarriedTapeUptoRow.domain false Rows.topCarriedTapeUptoRow.laid ((laidWorld os).forCall (fun _ _ => 0) ⟨#[], #[.agg #[.string ⟨#[]⟩, .string ⟨#[]⟩, .int .u8 0, .bool false, .int .i64 0, .slice none 0 0, .slice none 0 0, .slice none 0 0]], []⟩).memory #[.agg #[.string ⟨#[]⟩, .string ⟨#[]⟩, .int .u8 0, .bool false, .int .i64 0, .slice none 0 0, .slice none 0 0, .slice none 0 0]] := by
  have hw : (DataW.whole enc Tryz.prog ((laidWorld os).forCall (fun _ _ => 0) ⟨#[], #[.agg #[.string ⟨#[]⟩, .string ⟨#[]⟩, .int .u8 0, .bool false, .int .i64 0, .slice none 0 0, .slice none 0 0, .slice none 0 0]], []⟩).memory Tryz.f4.params.toList (Rows.OpenSpec.upto Rows.topCarriedTapeSpec).vars false #[.agg #[.string ⟨#[]⟩, .string ⟨#[]⟩, .int .u8 0, .bool false, .int .i64 0, .slice none 0 0, .slice none 0 0, .slice none 0 0]].toList 8).map (fun x => (x.1, x.2.1)) =
      some ([.agg [.lit (.string []), .lit (.string []), .lit (.int .u8 0), .lit (.bool false), .lit (.int .i64 0), .nil, .nil, .nil]], []) := by kernel_rfl
  obtain ⟨⟨x1, x2, x3⟩, hx, hx1⟩ := Option.map_eq_some_iff.1 hw
  simp only [Prod.mk.injEq] at hx1
  obtain ⟨rfl, rfl⟩ := hx1
  exact OpenSpec.preRow_of_cond 8 hx (by kernel_rfl) (fun k hk => by cases hk; kernel_rfl) (by kernel_rfl) (laid_met os _)
set_option maxRecDepth 100000 in
theorem lifted (os : Os) (started : os.Started) (H : Type) (enc : TypeId × Value → H) (F : Stop.Interp) :
    ReturnsInHanded {} Tryz.checked os 4 .any ((Rows.OpenSpec.upto Rows.topCarriedTapeSpec).preRow enc Tryz.prog Tryz.f4 Rows.topCarriedTapeUptoRow.domain false Rows.topCarriedTapeUptoRow.laid) (((Rows.OpenSpec.upto Rows.topCarriedTapeSpec).at F).post enc Tryz.prog Tryz.f4 false true false false) := by
  refine returnsInHanded_of_row (C := Tryz.checked) (s := Rows.OpenSpec.upto Rows.topCarriedTapeSpec) own started (by kernel_rfl) Tryz.func4
    (witness_row_atRef (enc := enc) (C := Tryz.checked) false (laidWorld os) #[.agg #[.string ⟨#[]⟩, .string ⟨#[]⟩, .int .u8 0, .bool false, .int .i64 0, .slice none 0 0, .slice none 0 0, .slice none 0 0]] rfl (by kernel_rfl) (by kernel_rfl) (by kernel_rfl) (witness_row os enc)) ?_
  intro W base args ds gs before hval0 hW _ hk0 hsz0 hL hsh _
  have hval : ∀ (j : Nat) t v, Tryz.f4.params[j]? = some t → args[j]? = some v → Value.okWide Tryz.prog W .any base t v := hval0
  have hW' := hW
  obtain ⟨p, q, hA0, hV, rfl, hfz, hnd⟩ := hW
  have hA : DataW.TrodAll enc Tryz.prog W 0 (fun _ => true) true Tryz.f4.params.toList args.toList ds p := hA0
  have hlt : ∀ (j : Nat) t v, Tryz.f4.params.toList[j]? = some t → args.toList[j]? = some v → Value.okWide Tryz.prog W .any base t v := fun j t v h1 h2 => hval j t v (by simpa using h1) (by simpa using h2)
  have htab : Lib.Utf8Tabs 0 1 W :=
    utf8Tabs_of_readsT (U8Types.of196 LV) ⟨by kernel_rfl, by kernel_rfl, by kernel_rfl, by kernel_rfl, by kernel_rfl, by kernel_rfl, by kernel_rfl⟩ (Lib.laidMet.reads hL (.tail _ (.tail _ (.tail _ (.tail _ (.head _)))))) (Lib.laidMet.reads hL (.tail _ (.tail _ (.tail _ (.head _)))))
  have hml : ∃ m, W.cell? ⟨2, 0, none⟩ = some (.int .i64 m) := cell_of_shapedOpen_int (P := Tryz.prog) (g := 2) (t := 3) (zero := #[.int .i64 0]) hsh (of_decide_eq_true (by kernel_rfl)) (by kernel_rfl) rfl (by kernel_rfl) (by kernel_rfl) Tryz.underlying3
  have hdoor : Go.Gh.gN Tryz.prog ≤ W.heap.size ∧ Go.Gh.gT Tryz.prog W := ⟨hml.elim fun m hm => World.block_lt_of_cell? W _ hm, htab, hml⟩
  have hq : ∀ (j : Nat) d, ds[j]? = some d → ∀ m ∈ Go.Gh.dims d, m ≤ 1048576 := fun j d hd m hm => by
    have hk1 := hk0 _ rfl
    have hk2 : Rows.uptoBulkAll (ds ++ gs) ≤ 1048576 := of_decide_eq_true hk1
    exact Nat.le_trans (dims_le d m hm) (Nat.le_trans (bulk_mem (List.mem_append_left _ (List.mem_of_getElem? hd))) hk2)
  have hcalls := Go.Gh.law_shpQ (Q := fun m => m ≤ 1048576) gbyte gmix gok (f := 4) rfl 10 hA hlt (Go.Gh.sized_each hsz0) hq (ss := [.st [.str, .str, .int .u8, .bool, .int .i64, .sl (.st [.str, .int .i64, .int .i64, .int .i64, .int .i64, .int .u8, .bool]), .sl (.st [.int .i64, .st [.int .i64, .int .i64], .str, .int .u8, .str, .sl (.st [.sl (.st [.str, .st [.int .u8, .bool, .bool], .str])])]), .sl (.st [.int .i64, .int .i64, .int .i64, .int .i64, .str, .str, .bool, .bool])]]) (by kernel_rfl) (Go.Gh.opn_nil (fun _ => rfl) W hdoor) fun H' gvs _ hw h hvr => Go.Gh.carried_law hw h
  rw [Array.toArray_toList] at hcalls
  obtain ⟨rfl, rfl⟩ := trodVars_none hV
  have hS := fun W' (bel : Below W.heap.size W W') => Go.Gh.shut_args laidOut bel _ _ _ _ hA (by kernel_rfl)
  rw [Tryz.params4] at hA
  obtain ⟨v0, vs0, d0, ds0, p0, q0, hargs0, rfl, rfl, h0, hA⟩ := trodAll_cons hA
  obtain ⟨_, rfl, rfl⟩ := trodAll_nil hA
  refine hcalls.mono fun e W' ⟨he, bel⟩ => ?_
  subst he
  exact ⟨_, rfl, _, _, _, [], _, [], hW', trodAll_mk1 (shut_bool Tryz.underlying4 _), hS _ bel, rfl, bel.frame _, fun h => by cases h⟩
theorem over : Rows.TopCarriedTapeUptoSaid :=
  OpenClaim.holds_of_cond 4 Tryz.f4 rfl rfl rfl rfl rfl rfl rfl ⟨rfl, rfl, rfl, rfl, rfl⟩ rfl rfl rfl rfl rfl (by kernel_rfl) Tryz.func4 (by kernel_rfl)
    (of_decide_eq_true (by kernel_rfl)) (by unfold Func.isWrapper; first | (rw [if_pos (by decide +kernel)]; kernel_rfl) | (rw [if_neg (by decide +kernel)]; exact ⟨rfl, rfl⟩))
    (fun os started H enc _ F0 => by rw [OpenClaim.pre_eq_preRow]; exact lifted os started H enc F0)
theorem proved : Rows.TopCarriedTapeUptoCardSaid :=
  Claim7.holds_tied_plain_at .later [] [.data, .data, .data, .data, .pinned] true (true, "52bd87df01a21f40260040c2eafab06777cd8e24c44f65fd65bd852221d99be3") false
    over (fun _ h => by cases h) (by kernel_rfl) (fun _ h => by cases h) topCarriedTapeUpto_row_tie rfl ⟨rfl, rfl⟩ (by kernel_rfl) rfl
    (fun f fn hf hfn => by
      obtain rfl : f = 4 := Option.some.inj ((show Tryz.prog.funcNamed "captioner/captionertop.TopCarriedTape" = some 4 by kernel_rfl).symm.trans hf) |>.symm
      obtain rfl : fn = Tryz.f4 := (Option.some.inj (Tryz.func4.symm.trans hfn)).symm
      exact ⟨by kernel_rfl, fun j t ht => by
        have hall : ∀ u ∈ Tryz.f4.params.toList, Tryz.prog.wantsStandIn u = false := by
          have : (Tryz.f4.params.toList.all fun u => !Tryz.prog.wantsStandIn u) = true := by kernel_rfl
          intro u hu
          have := List.all_eq_true.1 this u hu
          simpa using this
        exact hall t (by rw [← Array.getElem?_toList] at ht; exact List.mem_of_getElem? ht)⟩)
    (by kernel_rfl)
#print axioms proved
end Go.Proofs.YtjjcgaompnjbdaaGreatDoor.topCarriedTapeUpto
