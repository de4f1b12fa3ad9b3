/-
  Plain: the law Words: texts that are put together, capital letters.
-/
import Derived.Test.YtfldcmeecpgpeaaDoorGlF
namespace Go.Gh
set_option linter.unusedSimpArgs false
set_option linter.unusedVariables false
open Go.RowKit Go.Lib
set_option maxRecDepth 100000

theorem data_strB (l : List UInt8) : (strB l).data.toList = l := rfl
theorem rns_app {a b : List UInt8} (ha : vldB (strB a) = true) (hb : vldB (strB b) = true) : rns (strB (a ++ b)) = rns (strB a) ++ rns (strB b) := by
  have h1 := enc_rns ha
  have h2 := enc_rns hb
  rw [data_strB] at h1 h2
  have h3 := rns_enc (l := rns (strB a) ++ rns (strB b)) (fun x hx => by
    rcases List.mem_append.1 hx with h | h
    · exact vldB_mem ha x h
    · exact vldB_mem hb x h)
  rw [List.flatMap_append, h1, h2] at h3
  exact h3
theorem vld_app {a b : List UInt8} (ha : vldB (strB a) = true) (hb : vldB (strB b) = true) : vldB (strB (a ++ b)) = true := vldB_of fun x hx => by
  rw [rns_app ha hb] at hx
  rcases List.mem_append.1 hx with h | h
  · exact vldB_mem ha x h
  · exact vldB_mem hb x h
theorem fcs_app {a b : List UInt8} (ha : vldB (strB a) = true) (hb : vldB (strB b) = true) : fcs (a ++ b) = fcs a ++ fcs b := by
  unfold fcs
  rw [charL_yes (vld_app ha hb), charL_yes ha, charL_yes hb, rns_app ha hb, List.map_append]
theorem vld32 : vldB (strB [32]) = true := by decide +kernel
theorem vld46 : vldB (strB [46]) = true := by decide +kernel
theorem vld120 : vldB (strB [120]) = true := by decide +kernel
theorem fcs32 : fcs [32] = [32] := by decide +kernel
theorem fcs46 : fcs [46] = [46] := by decide +kernel
theorem fcs120 : fcs [120] = [120] := by decide +kernel
theorem no10_table : (REP.all fun x => !(encL x).contains 10) = true := by kernel_rfl
theorem vld_no10 {l : List UInt8} (h : vldB (strB l) = true) : 10 ∉ l := fun hm => by
  have h1 := enc_rns h
  rw [data_strB] at h1
  rw [← h1] at hm
  obtain ⟨x, hx, hb⟩ := List.mem_flatMap.1 hm
  have := List.all_eq_true.1 no10_table x (vldB_mem h x hx)
  simp at this
  exact this hb
theorem rpl_vld {l : List UInt8} (h : vldB (strB l) = true) : rpl l = l := rpl_id (vld_no10 h)
/-! ### capital letters -/
def uppN (x : Nat) : Nat := (uppA x).toNat
/-- bytes that are blanks at the same places -/
def simB : List UInt8 → List UInt8 → Bool
  | [], [] => true
  | a :: l, b :: m => (a == 32) == (b == 32) && simB l m
  | _, _ => false
theorem upp_table : (REP.all fun x => decide (uppN x ∈ REP) && uppA x == (uppN x : Int) && foldN (uppN x) == foldN x && simB (encL x) (encL (uppN x))) = true := by kernel_rfl
theorem upp_char {x : Nat} (hx : x ∈ REP) : uppN x ∈ REP ∧ uppA x = (uppN x : Int) ∧ foldN (uppN x) = foldN x ∧ simB (encL x) (encL (uppN x)) = true := by
  have := List.all_eq_true.1 upp_table x hx
  simp only [Bool.and_eq_true, decide_eq_true_eq, beq_iff_eq] at this
  exact ⟨this.1.1.1, this.1.1.2, this.1.2, this.2⟩
theorem simB_app : ∀ {a b c d : List UInt8}, simB a b = true → simB c d = true → simB (a ++ c) (b ++ d) = true
  | [], [], _, _, _, h => h
  | a :: l, b :: m, c, d, h, k => by
    simp only [simB, Bool.and_eq_true, List.cons_append] at h ⊢
    exact ⟨h.1, simB_app h.2 k⟩
  | [], _ :: _, _, _, h, _ => by simp [simB] at h
  | _ :: _, [], _, _, h, _ => by simp [simB] at h
theorem simB_len : ∀ {a b : List UInt8}, simB a b = true → b.length = a.length
  | [], [], _ => rfl
  | a :: l, b :: m, h => by
    simp only [simB, Bool.and_eq_true] at h
    simp [simB_len h.2]
  | [], _ :: _, h => by simp [simB] at h
  | _ :: _, [], h => by simp [simB] at h
theorem simB_at : ∀ {a b : List UInt8} (i : Nat), simB a b = true → i < a.length → (a[i]! == 32) = (b[i]! == 32)
  | a :: l, b :: m, 0, h, _ => by
    simp only [simB, Bool.and_eq_true, beq_iff_eq] at h
    simpa using h.1
  | a :: l, b :: m, i + 1, h, hi => by
    simp only [simB, Bool.and_eq_true, List.length_cons] at h hi
    simpa using simB_at (a := l) (b := m) i h.2 (by omega)
  | [], [], _, _, hi => by simp at hi
  | [], _ :: _, _, h, _ => by simp [simB] at h
  | _ :: _, [], _, h, _ => by simp [simB] at h
theorem simB_dbl : ∀ {a b : List UInt8}, simB a b = true → dblF b = dblF a
  | [], [], _ => rfl
  | [a], [b], _ => rfl
  | a :: c :: l, b :: d :: m, h => by
    have h' := h
    simp only [simB, Bool.and_eq_true, beq_iff_eq] at h'
    have ih := simB_dbl (a := c :: l) (b := d :: m) (by simp only [simB, Bool.and_eq_true, beq_iff_eq]; exact h'.2)
    rw [dblF, dblF, ih, h'.1, h'.2.1]
  | [], _ :: _, h => by simp [simB] at h
  | _ :: _, [], h => by simp [simB] at h
  | [_], _ :: _ :: _, h => by simp [simB] at h
  | _ :: _ :: _, [_], h => by simp [simB] at h
/-- the bytes of the capital letters of characters -/
def upB (l : List Nat) : List UInt8 := (l.map uppN).flatMap encL
theorem upB_sim : ∀ {l : List Nat}, (∀ x ∈ l, x ∈ REP) → simB (l.flatMap encL) (upB l) = true
  | [], _ => rfl
  | x :: l, h => by
    have h1 := (upp_char (h x (by simp))).2.2.2
    have h2 := upB_sim (l := l) fun y hy => h y (by simp [hy])
    unfold upB
    rw [List.flatMap_cons, List.map_cons, List.flatMap_cons]
    exact simB_app h1 h2
theorem upB_rns {l : List Nat} (h : ∀ x ∈ l, x ∈ REP) : rns (strB (upB l)) = l.map uppN := rns_enc fun x hx => by
  obtain ⟨y, hy, rfl⟩ := List.mem_map.1 hx
  exact (upp_char (h y hy)).1
theorem upB_vld {l : List Nat} (h : ∀ x ∈ l, x ∈ REP) : vldB (strB (upB l)) = true := vldB_of fun x hx => by
  rw [upB_rns h] at hx
  obtain ⟨y, hy, rfl⟩ := List.mem_map.1 hx
  exact (upp_char (h y hy)).1
theorem phr_sim {a b : List UInt8} (h : simB a b = true) (hv : vldB (strB b) = true) (hp : phrB a = true) : phrB b = true := by
  unfold phrB at hp ⊢
  have hl := simB_len h
  have hd := simB_dbl h
  simp only [Bool.and_eq_true, Bool.not_eq_true', decide_eq_true_eq, beq_eq_false_iff_ne] at hp ⊢
  obtain ⟨⟨⟨⟨⟨h1, h2⟩, h3⟩, h4⟩, h5⟩, h6⟩ := hp
  have hpos := List.length_pos_iff.2 h2
  have e0 := simB_at 0 h hpos
  have en := simB_at (a.length - 1) h (by omega)
  refine ⟨⟨⟨⟨⟨hv, fun e => ?_⟩, fun e => h3 ?_⟩, fun e => h4 ?_⟩, by rw [hd]; exact h5⟩, by omega⟩
  · rw [e] at hl; simp at hl; omega
  · rw [e] at e0; simpa using e0
  · rw [hl] at e; rw [e] at en; simpa using en
theorem phr_vld {t : List UInt8} (h : phrB t = true) : vldB (strB t) = true ∧ t ≠ [] ∧ t.length ≤ 400 := by
  unfold phrB at h
  simp only [Bool.and_eq_true, Bool.not_eq_true', decide_eq_true_eq, beq_eq_false_iff_ne] at h
  exact ⟨h.1.1.1.1.1, h.1.1.1.1.2, h.2⟩
theorem conB_phr {x t : List UInt8} (h : conB x t = true) : phrB t = true := by
  unfold conB at h
  split at h
  · rename_i hc; exact hc.2
  · cases h
theorem fcs_up {t : List UInt8} (h : vldB (strB t) = true) : fcs (upB (charL (strB t))) = fcs t := by
  have hm := charL_mem (strB t)
  unfold fcs
  rw [charL_yes (upB_vld hm), upB_rns hm, List.map_map]
  exact List.map_congr_left fun x hx => (upp_char (hm x hx)).2.2.1
theorem up_phr {t : List UInt8} (h : phrB t = true) : phrB (upB (charL (strB t))) = true := by
  have hv := (phr_vld h).1
  have hm := charL_mem (strB t)
  have h1 := upB_sim hm
  have h2 := enc_rns hv
  rw [data_strB] at h2
  rw [charL_yes hv] at h1
  rw [h2] at h1
  rw [charL_yes hv] at hm ⊢
  exact phr_sim h1 (upB_vld hm) h
/-! ### what the law says -/
/-- a word between a blank and a character that is neither a letter nor a digit -/
theorem mat_mid {A T B : List Nat} {c : Nat} (hc : jnd c = false) : conF (A ++ [32] ++ T ++ [c] ++ B) T = true := by
  refine conF_true (i := A.length + 1) (by simp; omega) ?_
  unfold mat
  rw [Bool.and_eq_true, Bool.and_eq_true]
  refine ⟨⟨decide_eq_true ?_, ?_⟩, ?_⟩
  · have : A ++ [32] ++ T ++ [c] ++ B = (A ++ [32]) ++ (T ++ ([c] ++ B)) := by simp
    rw [this, List.drop_left' (by simp), List.take_left]
  · unfold brd
    rw [if_neg (by simp; omega)]
    have : ((((A.length + 1 : Nat) : Int) - 1).toNat) = A.length := by omega
    rw [this]
    have e : (A ++ [32] ++ T ++ [c] ++ B)[A.length]! = 32 := by
      rw [getElem!_pos _ _ (by simp)]
      simp [List.append_assoc]
    rw [e]; decide +kernel
  · unfold brd
    rw [if_neg (by simp; omega)]
    have : ((((A.length + 1 : Nat) : Int) + T.length).toNat) = A.length + 1 + T.length := by omega
    rw [this]
    have e : (A ++ [32] ++ T ++ [c] ++ B)[A.length + 1 + T.length]! = c := by
      rw [getElem!_pos _ _ (by simp; omega)]
      have h2 : A ++ [32] ++ T ++ [c] ++ B = (A ++ [32] ++ T) ++ (c :: B) := by simp
      simp only [h2]
      rw [List.getElem_append_right (by simp; omega)]
      simp only [List.length_append, List.length_cons, List.length_nil, Nat.zero_add]
      have h3 : ∀ k, k = 0 → ∀ (hk : k < (c :: B).length), (c :: B)[k] = c := fun k hk0 hk => by subst hk0; rfl
      exact h3 _ (by omega) _
    rw [e, hc]; rfl
theorem jnd32 : jnd 32 = false := by decide +kernel
theorem jnd46 : jnd 46 = false := by decide +kernel
theorem jnd120 : jnd 120 = true := by decide +kernel
theorem con_x {T : List Nat} (hT : T ≠ []) : conF (T ++ [120]) T = false := by
  have hpos := List.length_pos_iff.2 hT
  refine conF_false fun i hi => ?_
  simp only [List.length_append, List.length_cons, List.length_nil] at hi
  unfold mat
  rcases Nat.eq_zero_or_pos i with rfl | hi1
  · have : brd (T ++ [120]) (((0 : Nat) : Int) + T.length) = false := by
      unfold brd
      rw [if_neg (by simp; omega)]
      have : ((((0 : Nat) : Int) + T.length).toNat) = T.length := by omega
      rw [this, getElem!_pos _ _ (by simp)]
      simp only [List.getElem_append_right (Nat.le_refl _), Nat.sub_self, List.getElem_cons_zero, jnd120]
      rfl
    rw [this, Bool.and_false]
  · have hi2 : i = 1 := by omega
    subst hi2
    by_cases he : ((T ++ [120]).drop 1).take T.length = T
    · have hall : ∀ k, k < T.length → T[T.length - 1 - k]! = 120 := by
        intro k
        induction k with
        | zero =>
          intro _
          rw [Nat.sub_zero]
          have h1 : T[T.length - 1]! = (((T ++ [120]).drop 1).take T.length)[T.length - 1]! := by rw [he]
          rw [h1, getElem!_pos _ _ (by simp; omega)]
          simp only [List.getElem_take, List.getElem_drop]
          rw [List.getElem_append_right (by omega)]
          simp
        | succ k ih =>
          intro hk
          have ih := ih (by omega)
          have h1 : T[T.length - 1 - (k + 1)]! = (((T ++ [120]).drop 1).take T.length)[T.length - 1 - (k + 1)]! := by rw [he]
          rw [h1, getElem!_pos _ _ (by simp; omega)]
          simp only [List.getElem_take, List.getElem_drop]
          rw [List.getElem_append_left (by omega), ← getElem!_pos T _ (by omega), show 1 + (T.length - 1 - (k + 1)) = T.length - 1 - k by omega]
          exact ih
      have h0 := hall (T.length - 1) (by omega)
      rw [Nat.sub_self] at h0
      have : brd (T ++ [120]) (((1 : Nat) : Int) - 1) = false := by
        unfold brd
        rw [if_neg (by first | (simp; done) | (simp; omega))]
        have : ((((1 : Nat) : Int) - 1).toNat) = 0 := by omega
        rw [this, getElem!_pos _ _ (by simp)]
        rw [List.getElem_append_left (by omega), ← getElem!_pos T _ (by omega), h0, jnd120]
        rfl
      rw [this, Bool.and_false, Bool.false_and]
    · rw [decide_eq_false he, Bool.false_and, Bool.false_and]
section
variable {b t a : List UInt8} (hb : vldB (strB b) = true) (ha : vldB (strB a) = true) (ht : phrB t = true)
include hb ha ht
theorem words_1 : conB (b ++ [32] ++ t ++ [32] ++ a) t = true := by
  have hv := (phr_vld ht).1
  have h1 := vld_app (vld_app (vld_app (vld_app hb vld32) hv) vld32) ha
  unfold conB
  rw [rpl_vld h1, if_pos ⟨h1, ht⟩, fcs_app (vld_app (vld_app (vld_app hb vld32) hv) vld32) ha, fcs_app (vld_app (vld_app hb vld32) hv) vld32, fcs_app (vld_app hb vld32) hv, fcs_app hb vld32, fcs32]
  exact mat_mid jnd32
theorem words_2 : conB (b ++ [32] ++ t ++ [32] ++ a) (upB (charL (strB t))) = true := by
  have hv := (phr_vld ht).1
  have h1 := vld_app (vld_app (vld_app (vld_app hb vld32) hv) vld32) ha
  unfold conB
  rw [rpl_vld h1, if_pos ⟨h1, up_phr ht⟩, fcs_app (vld_app (vld_app (vld_app hb vld32) hv) vld32) ha, fcs_app (vld_app (vld_app hb vld32) hv) vld32, fcs_app (vld_app hb vld32) hv, fcs_app hb vld32, fcs32, fcs_up hv]
  exact mat_mid jnd32
theorem words_3 : conB (b ++ [10] ++ upB (charL (strB t)) ++ [46] ++ a) t = true := by
  have hv := (phr_vld ht).1
  have hu := (phr_vld (up_phr ht)).1
  have h1 := vld_app (vld_app (vld_app (vld_app hb vld32) hu) vld46) ha
  have hr : rpl (b ++ [10] ++ upB (charL (strB t)) ++ [46] ++ a) = b ++ [32] ++ upB (charL (strB t)) ++ [46] ++ a := by
    rw [rpl_app, rpl_app, rpl_app, rpl_app, rpl_vld hb, rpl_vld ha, rpl_vld hu]; rfl
  unfold conB
  rw [hr, if_pos ⟨h1, ht⟩, fcs_app (vld_app (vld_app (vld_app hb vld32) hu) vld46) ha, fcs_app (vld_app (vld_app hb vld32) hu) vld46, fcs_app (vld_app hb vld32) hu, fcs_app hb vld32, fcs32, fcs46, fcs_up hv]
  exact mat_mid jnd46
omit hb ha in
theorem words_4 : conB (t ++ [120]) t = false := by
  have hv := (phr_vld ht).1
  have h1 := vld_app hv vld120
  unfold conB
  rw [rpl_vld h1, if_pos ⟨h1, ht⟩, fcs_app hv vld120, fcs120]
  refine con_x fun e => (phr_vld ht).2.1 ?_
  have h2 := enc_rns hv
  rw [data_strB] at h2
  unfold fcs at e
  rw [charL_yes hv] at e
  have e2 : rns (strB t) = [] := by simpa using e
  rw [← h2, e2]; rfl
end
end Go.Gh
