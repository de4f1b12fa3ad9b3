/-
  The reference's journal, walked: Free, Arm, On, Flip, copied, refused, record, write.
-/
import Derived.Test.YtbficpmoppailaaJnR3
namespace Go.Gh
set_option linter.unusedSimpArgs false
set_option linter.unusedVariables false
set_option maxHeartbeats 4000000
open Go.RowKit
set_option maxRecDepth 4000

def z5 : List Value := [.int .i64 0, .slice none 0 0, .bool false, .int .i64 0, .bool false]
theorem rp5 : ∀ (H : GHeap) (i : Nat) (a b c d e : Value) (u : Nat), (H.put i (.cells [a, b, c, d, e] u true)).rdn i 0 5 = some (.agg #[a, b, c, d, e]) := fun H i a b c d e u => rdn_put_all rfl
theorem rm_put {H : GHeap} {i : Nat} {dv : Value} {m : JM} : (H.put i (.cells (rmC dv m) 0 true)).rdn i 0 5 = some (rmV dv m) := rdn_put_all rfl
theorem rm_rdn {H : GHeap} {i : Nat} {dv : Value} {m : JM} (h : H.mine i = some (rmC dv m, 0)) : H.rdn i 0 5 = some (rmV dv m) := by
  unfold GHeap.rdn
  rw [mine_cs h]; rfl
theorem rm_gset {cs : List Value} (hc : cs.length = 5) {dv : Value} {m : JM} (h : flatV dv = true) : gsetn cs 0 5 (rmV dv m) = some (rmC dv m) := gsetn_all hc rfl (by
  have := rm_all (m := m) h
  rw [← Array.all_toList] at this; exact this)
theorem rl_all {l : JL} : (rlV l).cells.all flatV = true := by
  rw [← Array.all_toList]; exact rlC_all
theorem rl_list {l : JL} : (rlV l).cells.toList = rlC l := rfl
theorem rl_put {H : GHeap} {i : Nat} {l : JL} : (H.put i (.cells (rlC l) 0 true)).rdn i 0 6 = some (rlV l) := rdn_put_all rfl
theorem rl_rdn {H : GHeap} {i : Nat} {l : JL} (h : H.mine i = some (rlC l, 0)) : H.rdn i 0 6 = some (rlV l) := by
  unfold GHeap.rdn
  rw [mine_cs h]; rfl
theorem rl_gset {cs : List Value} (hc : cs.length = 6) {l : JL} : gsetn cs 0 6 (rlV l) = some (rlC l) := gsetn_all hc rfl rlC_all
theorem rfree_ok {H : GHeap} (hw : H.wf) {dv : Value} {m : JM} {l : JL} (hd : flatV dv = true) (hbig : m.data.length < 70368744177664) (hfin : l.fin < 70368744177664) : ∃ r H', gev G 33 [rmV dv m, rlV l] H = some (r, H') ∧ (r = .int .i64 (freeJ m l) ∧ Same H H') := by
  refine gev_GW (f := 33) rfl fun Post hPost => ?_
  have hsz : m.size = m.data.length / 2 := rfl
  have h1 := rm_all (m := m) hd
  have h2 := rm_list (dv := dv) (m := m)
  have h3 := rl_all (l := l)
  have h4 := rl_list (l := l)
  have hS := ((Same.refl hw).add (.cells (rmC dv m) 0 true)).add (.cells (rlC l) 0 true)
  have hr0 : ((H.add (some (.cells (rmC dv m) 0 true))).add (some (.cells (rlC l) 0 true))).rd H.len 0 = some (.int .i64 (m.size : Int)) := by rw [rd_add_ne (by rw [len_add]; omega), rd_add_eq rfl]; rfl
  have hr1 : ((H.add (some (.cells (rmC dv m) 0 true))).add (some (.cells (rlC l) 0 true))).rd (H.len + 1) 1 = some (.int .i64 (l.fin : Int)) := by rw [rd_add_eq (by rw [len_add])]; rfl
  simp only [frameOf, Nat.reduceAdd]
  repeat' (first | (exfalso; omega) | refine zn ?_ | refine zK rfl ?_ | refine zP rfl ?_ | ((first | refine zm ?_ | skip); intro _; intros; simp (disch := first | exact zd | fail) only [↓yS, yT, gresults, gone, ↓reduceIte, Nat.reduceEqDiff, Nat.reduceAdd, Nat.reduceMul, reduceCtorEq, Int.reduceToNat, g33, h1, h2, h3, h4]; first | (rename_i K k; (first | refine yC (k _ _ ?_) | refine zg (k _ ?_)); clear k K) | (rename_i A B C D a b c d; (first | refine zx (a ?_) | refine zy (b ?_) | refine zz (fun hc => c ?_) (fun hc => d ?_) | refine zv (b ?_) | refine zw (a ?_)) <;> clear a b c d A B C D <;> try simp only [yL] at hc)) | refine zA ?_ | refine zB ?_ | refine zF ?_)
  repeat' (first | (exfalso; omega) | refine zn ?_ | refine zK rfl ?_ | refine zP rfl ?_ | ((first | refine zm ?_ | skip); intro _; intros; simp (disch := first | exact zd | fail) only [↓yS, yT, gresults, gone, ↓reduceIte, Nat.reduceEqDiff, Nat.reduceAdd, Nat.reduceMul, reduceCtorEq, Int.reduceToNat, g33, hr0, hr1]; first | (rename_i K k; (first | refine yC (k _ _ ?_) | refine zg (k _ ?_)); clear k K) | (rename_i A B C D a b c d; (first | refine zx (a ?_) | refine zy (b ?_) | refine zz (fun hc => c ?_) (fun hc => d ?_) | refine zv (b ?_) | refine zw (a ?_)) <;> clear a b c d A B C D <;> try simp only [yL] at hc)) | refine zA ?_ | refine zB ?_ | refine zF ?_)
  refine hPost _ _ ⟨?_, hS⟩
  rw [freeJ]
theorem rarm_ok {H : GHeap} (hw : H.wf) {dv : Value} {m : JM} (hd : flatV dv = true) {n : Int} (hn : -9223372036854775808 ≤ n ∧ n ≤ 9223372036854775807) : ∃ r H', gev G 30 [rmV dv m, .int .i64 n] H = some (r, H') ∧ (r = rmV dv {m with armed := true, left := max n 0} ∧ Same H H') := by
  refine gev_GW (f := 30) rfl fun Post hPost => ?_
  have h1 := rm_all (m := m) hd
  have h2 := rm_list (dv := dv) (m := m)
  have hlim := hw.1
  have hS := ((Same.refl hw).add (.cells (rmC dv m) 0 true)).add (.cells [.int .i64 0, .slice none 0 0, .bool false, .int .i64 0, .bool false] 0 true)
  have hst : ((rmC dv m).set 2 (.bool true)).set 3 (.int .i64 (max n 0)) = rmC dv {m with armed := true, left := max n 0} := rfl
  have hlr : (rmC dv m).length = 5 := rfl
  have e1 := fun HZ : GHeap => rm_put (H := HZ) (i := H.len) (dv := dv) (m := {m with armed := true, left := max n 0})
  have e2 := fun HZ : GHeap => rm_put (H := HZ) (i := H.len + 1) (dv := dv) (m := {m with armed := true, left := max n 0})
  have e3 := rm_gset (cs := [.int .i64 0, .slice none 0 0, .bool false, .int .i64 0, .bool false]) rfl (m := {m with armed := true, left := max n 0}) hd
  simp only [frameOf, Nat.reduceAdd]
  repeat' (first | (exfalso; omega) | refine zn ?_ | refine zK rfl ?_ | refine zP rfl ?_ | ((first | refine zm ?_ | skip); intro _; intros; simp (disch := first | exact zd | fail) only [↓yS, yT, gresults, gone, ↓reduceIte, Nat.reduceEqDiff, Nat.reduceAdd, Nat.reduceMul, reduceCtorEq, Int.reduceToNat, g30, h1, h2, hlr, hst, e1, e2, e3]; first | (rename_i K k; (first | refine yC (k _ _ ?_) | refine zg (k _ ?_)); clear k K) | (rename_i A B C D a b c d; (first | refine zx (a ?_) | refine zy (b ?_) | refine zz (fun hc => c ?_) (fun hc => d ?_) | refine zv (b ?_) | refine zw (a ?_)) <;> clear a b c d A B C D <;> try simp only [yL] at hc)) | refine zA ?_ | refine zB ?_ | refine zF ?_)
  refine hPost _ _ ⟨rfl, ?_⟩
  refine Same.put (Same.put hS ?_ ?_ _) ?_ ?_ _
  all_goals first | omega | (simp only [len_put, len_add]; omega)
theorem ron_ok {H : GHeap} (hw : H.wf) {dv : Value} {m : JM} (hd : flatV dv = true) : ∃ r H', gev G 31 [rmV dv m] H = some (r, H') ∧ (r = rmV dv {m with armed := false, left := 0, off := false} ∧ Same H H') := by
  refine gev_GW (f := 31) rfl fun Post hPost => ?_
  have h1 := rm_all (m := m) hd
  have h2 := rm_list (dv := dv) (m := m)
  have hlim := hw.1
  have hS := ((Same.refl hw).add (.cells (rmC dv m) 0 true)).add (.cells [.int .i64 0, .slice none 0 0, .bool false, .int .i64 0, .bool false] 0 true)
  have hst : (((rmC dv m).set 2 (.bool false)).set 3 (.int .i64 0)).set 4 (.bool false) = rmC dv {m with armed := false, left := 0, off := false} := rfl
  have hlr : (rmC dv m).length = 5 := rfl
  have e1 := fun HZ : GHeap => rm_put (H := HZ) (i := H.len) (dv := dv) (m := {m with armed := false, left := 0, off := false})
  have e2 := fun HZ : GHeap => rm_put (H := HZ) (i := H.len + 1) (dv := dv) (m := {m with armed := false, left := 0, off := false})
  have e3 := rm_gset (cs := [.int .i64 0, .slice none 0 0, .bool false, .int .i64 0, .bool false]) rfl (m := {m with armed := false, left := 0, off := false}) hd
  simp only [frameOf, Nat.reduceAdd]
  repeat' (first | (exfalso; omega) | refine zn ?_ | refine zK rfl ?_ | refine zP rfl ?_ | ((first | refine zm ?_ | skip); intro _; intros; simp (disch := first | exact zd | fail) only [↓yS, yT, gresults, gone, ↓reduceIte, Nat.reduceEqDiff, Nat.reduceAdd, Nat.reduceMul, reduceCtorEq, Int.reduceToNat, g31, h1, h2, hlr, hst, e1, e2, e3]; first | (rename_i K k; (first | refine yC (k _ _ ?_) | refine zg (k _ ?_)); clear k K) | (rename_i A B C D a b c d; (first | refine zx (a ?_) | refine zy (b ?_) | refine zz (fun hc => c ?_) (fun hc => d ?_) | refine zv (b ?_) | refine zw (a ?_)) <;> clear a b c d A B C D <;> try simp only [yL] at hc)) | refine zA ?_ | refine zB ?_ | refine zF ?_)
  refine hPost _ _ ⟨rfl, ?_⟩
  refine Same.put (Same.put hS ?_ ?_ _) ?_ ?_ _
  all_goals first | omega | (simp only [len_put, len_add]; omega)
theorem rcopied_ok {H : GHeap} (hw : H.wf) {dv : Value} {m : JM} (h : RM H dv m) : ∃ r H', gev G 50 [rmV dv m] H = some (r, H') ∧ ∃ dv', r = rmV dv' m ∧ OB H H' dv' m.data := by
  refine gev_GW (f := 50) rfl fun Post hPost => ?_
  have hd := h.rb.flat
  have hbig := h.big
  have h1 := rm_all (m := m) hd
  have h2 := rm_list (dv := dv) (m := m)
  have hlim := hw.1
  have hS1 := (Same.refl hw).add (.cells (rmC dv m) 0 true)
  have hS := hS1.add (.cells z5 0 true)
  have hm1 : ((H.add (some (.cells (rmC dv m) 0 true))).add (some (.cells z5 0 true))).mine H.len = some ([.int .i64 (m.size : Int), dv, .bool m.armed, .int .i64 m.left, .bool m.off], 0) := by rw [mine_add_ne (by rw [len_add]; omega)]; exact mine_add_eq rfl hlim
  have hm2 : ((H.add (some (.cells (rmC dv m) 0 true))).add (some (.cells z5 0 true))).mine (H.len + 1) = some (z5, 0) := mine_add_eq (by rw [len_add]) (by rw [lim_add]; omega)
  have hl2 : ((H.add (some (.cells (rmC dv m) 0 true))).add (some (.cells z5 0 true))).len = H.len + 2 := by simp only [len_add]
  simp only [frameOf, Nat.reduceAdd]
  repeat' (first | (exfalso; omega) | refine zn ?_ | refine zK rfl ?_ | refine zP rfl ?_ | ((first | refine zm ?_ | skip); intro _; intros; simp (disch := first | exact zd | fail) only [↓yS, yT, gresults, gone, ↓reduceIte, Nat.reduceEqDiff, Nat.reduceAdd, Nat.reduceMul, reduceCtorEq, Int.reduceToNat, g50, h1, h2]; first | (rename_i K k; (first | refine yC (k _ _ ?_) | refine zg (k _ ?_)); clear k K) | (rename_i A B C D a b c d; (first | refine zx (a ?_) | refine zy (b ?_) | refine zz (fun hc => c ?_) (fun hc => d ?_) | refine zv (b ?_) | refine zw (a ?_)) <;> clear a b c d A B C D <;> try simp only [yL] at hc)) | refine zA ?_ | refine zB ?_ | refine zF ?_)
  rw [show ([.int .i64 0, .slice none 0 0, .bool false, .int .i64 0, .bool false] : List Value) = z5 from rfl]
  generalize ((H.add (some (.cells (rmC dv m) 0 true))).add (some (.cells z5 0 true))) = H2 at *
  have hw2 := hS.wf
  have hO0 : OB H (H2.add (some (.cells [] 257 true))) (.slice (some ⟨H2.len, 0, none⟩) 0 1) [] := OB.made (l := []) hS rfl 1 (.inr rfl)
  have hSa := (Same.refl hw2).add (.cells [] 257 true)
  have hm1a : (H2.add (some (.cells [] 257 true))).mine H.len = some ([.int .i64 (m.size : Int), dv, .bool m.armed, .int .i64 m.left, .bool m.off], 0) := by rw [hSa.mine (by omega)]; exact hm1
  have hm2a : (H2.add (some (.cells [] 257 true))).mine (H.len + 1) = some (z5, 0) := by rw [hSa.mine (by omega)]; exact hm2
  have hr1 : (H2.add (some (.cells [] 257 true))).rd H.len 1 = some dv := mine_rd hm1a
  have hRa := h.rb.same_ hw (hS.trans hSa)
  have hOS : OS 1 257 H (H2.add (some (.cells [] 257 true))) (.slice (some ⟨H2.len, 0, none⟩) 0 1) 0 [] := ⟨hO0.same, hO0.own, hO0.young⟩
  obtain ⟨v', H3, e, hO', hB'⟩ := hOS.appN (b := 1) (by decide) (by decide) hRa (by omega) (by omega)
  rw [List.nil_append, Nat.zero_add] at hO'
  have e' := e
  rw [hl2] at e'
  have hO : OB H H3 v' m.data := ⟨hO'.same, hO'.own, hO'.young⟩
  have hn2 : ∀ a, a < H2.len → ¬ a ∈ idOf (.slice (some ⟨H2.len, 0, none⟩) 0 1) := fun a ha hb => by
    simp only [idOf, List.mem_singleton] at hb; omega
  have hw3 := hO.same.wf
  have hm13 : H3.mine H.len = some ([.int .i64 (m.size : Int), dv, .bool m.armed, .int .i64 m.left, .bool m.off], 0) := by rw [hB'.mine (by rw [len_add]; omega) (hn2 _ (by omega))]; exact hm1a
  have hm23 : H3.mine (H.len + 1) = some (z5, 0) := by rw [hB'.mine (by rw [len_add]; omega) (hn2 _ (by omega))]; exact hm2a
  have hf' := hO.rb.flat
  repeat' (first | (exfalso; omega) | refine zn ?_ | refine zK rfl ?_ | refine zP rfl ?_ | ((first | refine zm ?_ | skip); intro _; intros; simp (disch := first | exact zd | fail) only [↓yS, yT, gresults, gone, ↓reduceIte, Nat.reduceEqDiff, Nat.reduceAdd, Nat.reduceMul, reduceCtorEq, Int.reduceToNat, g50, hr1]; first | (rename_i K k; (first | refine yC (k _ _ ?_) | refine zg (k _ ?_)); clear k K) | (rename_i A B C D a b c d; (first | refine zx (a ?_) | refine zy (b ?_) | refine zz (fun hc => c ?_) (fun hc => d ?_) | refine zv (b ?_) | refine zw (a ?_)) <;> clear a b c d A B C D <;> try simp only [yL] at hc)) | refine zA ?_ | refine zB ?_ | refine zF ?_)
  refine Gw_s fun K' hK' => ?_
  simp (disch := first | exact zd | fail) only [↓yS, yT, ↓reduceIte, Nat.reduceEqDiff, Nat.reduceAdd, Nat.reduceMul, reduceCtorEq, Int.reduceToNat, hr1]
  refine G1_eq e' (hK' _ _ ?_)
  clear hK' K' e e'
  have hlim3 := (mine_obj hm13).1
  have hgs : gset [.int .i64 (m.size : Int), dv, .bool m.armed, .int .i64 m.left, .bool m.off] 1 v' = some (rmC v' m) := by rw [gset_ok (by simp) hf']; rfl
  have hm14 : (H3.put H.len (.cells (rmC v' m) 0 true)).mine H.len = some (rmC v' m, 0) := mine_put_same hlim3
  have hm24 : (H3.put H.len (.cells (rmC v' m) 0 true)).mine (H.len + 1) = some (z5, 0) := by rw [mine_put_ne (by omega)]; exact hm23
  have hO4 := hO.put0 (Nat.le_refl _) hm13 (.cells (rmC v' m) 0 true)
  repeat' (first | (exfalso; omega) | refine zn ?_ | refine zK rfl ?_ | refine zP rfl ?_ | ((first | refine zm ?_ | skip); intro _; intros; simp (disch := first | exact zd | fail) only [↓yS, yT, gresults, gone, ↓reduceIte, Nat.reduceEqDiff, Nat.reduceAdd, Nat.reduceMul, reduceCtorEq, Int.reduceToNat, g50, hm13, hgs]; first | (rename_i K k; (first | refine yC (k _ _ ?_) | refine zg (k _ ?_)); clear k K) | (rename_i A B C D a b c d; (first | refine zx (a ?_) | refine zy (b ?_) | refine zz (fun hc => c ?_) (fun hc => d ?_) | refine zv (b ?_) | refine zw (a ?_)) <;> clear a b c d A B C D <;> try simp only [yL] at hc)) | refine zA ?_ | refine zB ?_ | refine zF ?_)
  generalize H3.put H.len (.cells (rmC v' m) 0 true) = H4 at *
  have e1 := rm_rdn hm14
  have e2 := rm_gset (cs := z5) rfl (m := m) hf'
  have e3 := fun H => rm_put (H := H) (i := H2.len) (dv := v') (m := m)
  have e4 : (H4.put (H.len + 1) (.cells (rmC v' m) 0 true)).rdn (H.len + 1) 0 5 = some (rmV v' m) := rm_put
  repeat' (first | (exfalso; omega) | refine zn ?_ | refine zK rfl ?_ | refine zP rfl ?_ | ((first | refine zm ?_ | skip); intro _; intros; simp (disch := first | exact zd | fail) only [↓yS, yT, gresults, gone, ↓reduceIte, Nat.reduceEqDiff, Nat.reduceAdd, Nat.reduceMul, reduceCtorEq, Int.reduceToNat, g50, e1, e2, hm24, e4]; first | (rename_i K k; (first | refine yC (k _ _ ?_) | refine zg (k _ ?_)); clear k K) | (rename_i A B C D a b c d; (first | refine zx (a ?_) | refine zy (b ?_) | refine zz (fun hc => c ?_) (fun hc => d ?_) | refine zv (b ?_) | refine zw (a ?_)) <;> clear a b c d A B C D <;> try simp only [yL] at hc)) | refine zA ?_ | refine zB ?_ | refine zF ?_)
  exact hPost _ _ ⟨v', rfl, hO4.put0 (by omega) hm24 _⟩
/-- bytes that the reference's memory writes -/
def wrR (m : JM) : List (Nat × UInt8) → JM
  | [] => m
  | (o, b) :: r => if m.off || (m.armed && m.left == 0) then {m with off := true} else wrR {m with left := if m.armed then IntKind.i64.wrap (m.left - 1) else m.left, data := m.data.set o b} r
theorem wrR_len : ∀ (l : List (Nat × UInt8)) (m : JM), (wrR m l).data.length = m.data.length
  | [], m => rfl
  | (o, b) :: r, m => by
    rw [wrR]
    split
    · rfl
    · rw [wrR_len]; simp
theorem wrR_off : ∀ (l : List (Nat × UInt8)) (m : JM), m.off = true → wrR m l = m
  | [], m, _ => rfl
  | (o, b) :: r, m, h => by
    rw [wrR, h]
    simp only [Bool.true_or, if_true]
    cases m; simp_all
theorem wrR_append : ∀ (a b : List (Nat × UInt8)) (m : JM), wrR m (a ++ b) = wrR (wrR m a) b
  | [], b, m => rfl
  | (o, x) :: a, b, m => by
    rw [List.cons_append, wrR, wrR]
    split
    · rw [wrR_off]; rfl
    · exact wrR_append a b _
/-- the two memories: the same but for what is left while it is not armed -/
structure RL (m m' : JM) : Prop where
  data : m'.data = m.data
  armed : m'.armed = m.armed
  off : m'.off = m.off
  left : m.armed = true → m'.left = m.left
theorem RL.write : ∀ (l : List (Nat × UInt8)) {m m' : JM}, RL m m' → RL (wrB m l).1 (wrR m' l) ∧ (wrB m l).2 = !(wrR m' l).off
  | [], m, m', h => ⟨h, by simp [wrB, wrR, h.off]⟩
  | (o, b) :: r, m, m', h => by
    have hc : (m'.off || (m'.armed && m'.left == 0)) = (m.off || (m.armed && m.left == 0)) := by
      rw [h.off, h.armed]
      cases ha : m.armed with
      | false => simp
      | true => rw [h.left ha]
    rw [wrB, wrR, hc]
    by_cases hs : (m.off || (m.armed && m.left == 0)) = true
    · rw [if_pos hs, if_pos hs]
      exact ⟨⟨h.data, h.armed, rfl, h.left⟩, rfl⟩
    · rw [if_neg hs, if_neg hs]
      refine RL.write r ⟨by simp only [h.data], h.armed, h.off, fun ha => ?_⟩
      simp only at ha ⊢
      rw [h.armed, ha, if_pos rfl, h.left ha]
theorem OB.shape {H0 H : GHeap} {v : Value} {l : List UInt8} (h : OB H0 H v l) (hl : 0 < l.length) : ∃ j gc, v = .slice (some ⟨j, 0, none⟩) l.length gc ∧ (gc = 0 ∨ gc = l.length + 1) ∧ H.mine j = some (u8s l, 257) ∧ H0.len ≤ j := by
  rcases h.own.at_ with ⟨e, h0⟩ | ⟨i, gc, e, hg, hm⟩
  · omega
  · refine ⟨i, gc, e, hg, hm, ?_⟩
    rcases h.young with h | h
    · rw [e] at h; cases h
    · rw [e] at h; exact h
set_option maxHeartbeats 2000000 in
theorem rwrite_ok {H0 H : GHeap} {dv : Value} {m : JM} (hO : OB H0 H dv m.data) (hlow : 128 ≤ m.data.length) (hbig : m.data.length < 70368744177664) {v : Value} {p : List UInt8} (hp : RB H v p) (ha : ∀ a ∈ idOf v, ¬ a ∈ idOf dv) {o : Nat} (ho : o + p.length ≤ m.data.length) :
    ∃ r H', gev G 51 [rmV dv m, .int .i64 o, v] H = some (r, H') ∧ (r = rmV dv (wrR m (at_ o p)) ∧ OB H0 H' dv (wrR m (at_ o p)).data ∧ But (fun z => z ∈ idOf dv) H H') := by
  refine gev_GW (f := 51) rfl fun Post hPost => ?_
  have hw := hO.same.wf
  have hlim := hw.1
  have hd := hO.rb.flat
  obtain ⟨j, gc, hdv, hgc, hmj, hj0⟩ := hO.shape (by omega)
  have hid : ∀ a, a ∈ idOf dv ↔ a = j := fun a => by rw [hdv]; simp [idOf]
  have hjl := mine_lt hw hmj
  have h1 := rm_all (m := m) hd
  have h2 := rm_list (dv := dv) (m := m)
  have hS1 := (Same.refl hw).add (.cells (rmC dv m) 0 true)
  have hS := hS1.add (.cells z5 0 true)
  have hm1 : ((H.add (some (.cells (rmC dv m) 0 true))).add (some (.cells z5 0 true))).mine H.len = some (rmC dv m, 0) := by rw [mine_add_ne (by rw [len_add]; omega)]; exact mine_add_eq rfl hlim
  have hm2 : ((H.add (some (.cells (rmC dv m) 0 true))).add (some (.cells z5 0 true))).mine (H.len + 1) = some (z5, 0) := mine_add_eq (by rw [len_add]) (by rw [lim_add]; omega)
  have hmj2 : ((H.add (some (.cells (rmC dv m) 0 true))).add (some (.cells z5 0 true))).mine j = some (u8s m.data, 257) := by rw [hS.mine hjl]; exact hmj
  have hl2 : ((H.add (some (.cells (rmC dv m) 0 true))).add (some (.cells z5 0 true))).len = H.len + 2 := by simp only [len_add]
  have hsl := hp.isSl
  have hsd : ∀ n : Nat, n = m.data.length → ∀ (kd : IntKind) (x : Nat), x < n → gia none 1 dv (.int kd x) = some (.pointer (some ⟨j, x, none⟩)) := fun n hn kd x hx => by
    rw [hdv]
    have := (show IsSl (.slice (some ⟨j, 0, none⟩) m.data.length gc) m.data.length from ⟨_, _, rfl, fun _ => ⟨_, _, rfl⟩⟩).ia (k := kd) (size := 1) (j := (x : Int)) (by omega) (by omega)
    simpa [blk, ofs] using this
  simp only [frameOf, Nat.reduceAdd]
  repeat' (first | (exfalso; omega) | refine zn ?_ | refine zK rfl ?_ | refine zP rfl ?_ | ((first | refine zm ?_ | skip); intro _; intros; simp (disch := first | exact zd | fail) only [↓yS, yT, gresults, gone, ↓reduceIte, Nat.reduceEqDiff, Nat.reduceAdd, Nat.reduceMul, reduceCtorEq, Int.reduceToNat, g51, h1, h2, hsl.len]; first | (rename_i K k; (first | refine yC (k _ _ ?_) | refine zg (k _ ?_)); clear k K) | (rename_i A B C D a b c d; (first | refine zx (a ?_) | refine zy (b ?_) | refine zz (fun hc => c ?_) (fun hc => d ?_) | refine zv (b ?_) | refine zw (a ?_)) <;> clear a b c d A B C D <;> try simp only [yL] at hc)) | refine zA ?_ | refine zB ?_ | refine zF ?_)
  rw [show ([.int .i64 0, .slice none 0 0, .bool false, .int .i64 0, .bool false] : List Value) = z5 from rfl]
  generalize ((H.add (some (.cells (rmC dv m) 0 true))).add (some (.cells z5 0 true))) = H2 at *
  refine GW_loop (fun k fr HX => ∃ (q : Nat) (m1 : JM), k = p.length - q ∧ q ≤ p.length ∧ fr.get 1 = some (.int .i64 o) ∧ fr.get 3 = some (ptr H.len) ∧ fr.get 6 = some (ptr (H.len + 1)) ∧ fr.get 9 = some (v) ∧ fr.get 10 = some (.int .i64 p.length) ∧ fr.get 11 = some (.int .i64 q) ∧ HX.mine H.len = some (rmC dv m1, 0) ∧ HX.mine (H.len + 1) = some (z5, 0) ∧ HX.mine j = some (u8s m1.data, 257) ∧ But (fun z => z = j) H HX ∧ m1.data.length = m.data.length ∧ wrR m (at_ o p) = wrR m1 (at_ (o + q) (p.drop q))) ?_ p.length ?_
  rotate_left
  · refine ⟨0, m, by omega, by omega, ?_⟩
    simp only [↓yG, Nat.reduceEqDiff, ↓reduceIte, Int.natCast_add, Int.cast_ofNat_Int, Int.natCast_zero, true_and, and_true, Option.some.injEq, Value.int.injEq, ptr]
    exact ⟨hm1, hm2, hmj2, But.of hS, rfl⟩
  rintro k fr HX ⟨q, m1, rfl, hq, f1, f3, f6, f9, f10, f11, hmX, hm2X, hmjX, hBX, hlX, hwr⟩ J hJ
  have hwX := hBX.wf
  have hlX1 := mine_lt hwX hmX
  have hlX2 := mine_lt hwX hm2X
  have hlXj := mine_lt hwX hmjX
  have hpX : RB HX v p := hp.but hw hBX fun a hi e => ha a hi ((hid a).2 e)
  have hbd : ∀ k : Nat, k < p.length → HX.rd (blk v) (ofs v + k) = some (.int .u8 p[k]!.toNat) := fun k hk => hpX.read hk
  -- what is returned
  have hret : ∀ (m2 : JM) HY, HY.mine H.len = some (rmC dv m2, 0) → HY.mine (H.len + 1) = some (z5, 0) → HY.mine j = some (u8s m2.data, 257) → But (fun z => z = j) H HY → m2.data.length = m.data.length → wrR m (at_ o p) = m2 → HY.rdn H.len 0 5 = some (rmV dv m2) ∧ gsetn z5 0 5 (rmV dv m2) = some (rmC dv m2) ∧ (HY.put (H.len + 1) (.cells (rmC dv m2) 0 true)).rdn (H.len + 1) 0 5 = some (rmV dv m2) ∧ Post (rmV dv m2) (HY.put (H.len + 1) (.cells (rmC dv m2) 0 true)) := fun m2 HY a1 a2 a3 a4 a5 a6 => by
    refine ⟨rm_rdn a1, rm_gset rfl hd, rm_put, hPost _ _ ⟨by rw [a6], ?_, ?_⟩⟩
    · rw [a6]
      have hwY := a4.wf
      have hSY : Same H0 HY := a4.same hO.same fun k hk e => by omega
      have hl0 := hO.same.len
      refine ⟨hSY.put (by omega) (mine_lt hwY a2) _, ⟨by rw [u8s_length]; omega, .inr ⟨j, gc, by rw [hdv, a5], by rw [a5]; exact hgc, ?_⟩⟩, by rw [hdv]; exact .inr hj0⟩
      rw [mine_put_ne (by omega)]; exact a3
    · have hwY := a4.wf
      have hll := a4.len
      have h5 : But (fun z => z ∈ idOf dv) H HY := a4.mono fun z hz => (hid z).2 hz
      refine ⟨h5.lim, h5.len, fun k hk hs => ?_, wf_put hwY (mine_lt hwY a2) _⟩
      rw [obj_put, if_neg (by omega)]; exact h5.obj k hk hs
  by_cases hq1 : q < p.length
  case neg =>
    obtain rfl : q = p.length := by omega
    rw [List.drop_length] at hwr
    obtain ⟨d1, d2, d3, d4⟩ := hret m1 HX hmX hm2X hmjX hBX hlX hwr
    repeat' (first | (exfalso; omega) | refine zn ?_ | refine zK rfl ?_ | refine zP rfl ?_ | ((first | refine zm ?_ | skip); intro _; intros; simp (disch := first | exact zd | fail) only [↓yS, yT, gresults, gone, ↓reduceIte, Nat.reduceEqDiff, Nat.reduceAdd, Nat.reduceMul, reduceCtorEq, Int.reduceToNat, g51, f1, f3, f6, f9, f10, f11, ptr, d1, d2, d3, hm2X]; first | (rename_i K k; (first | refine yC (k _ _ ?_) | refine zg (k _ ?_)); clear k K) | (rename_i A B C D a b c d; (first | refine zx (a ?_) | refine zy (b ?_) | refine zz (fun hc => c ?_) (fun hc => d ?_) | refine zv (b ?_) | refine zw (a ?_)) <;> clear a b c d A B C D <;> try simp only [yL] at hc)) | refine zA ?_ | refine zB ?_ | refine zF ?_)
    exact d4
  have hr4 : HX.rd H.len 4 = some (.bool m1.off) := mine_rd hmX
  have hr2 : HX.rd H.len 2 = some (.bool m1.armed) := mine_rd hmX
  have hr3 : HX.rd H.len 3 = some (.int .i64 m1.left) := mine_rd hmX
  have hr1 : HX.rd H.len 1 = some dv := mine_rd hmX
  rw [drop_bang hq1, at_] at hwr
  cases hoff : m1.off with
  | true =>
    rw [hoff] at hr4
    have hw1 : wrR m (at_ o p) = m1 := by rw [hwr, wrR_off _ _ hoff]
    obtain ⟨d1, d2, d3, d4⟩ := hret m1 HX hmX hm2X hmjX hBX hlX hw1
    repeat' (first | (exfalso; omega) | refine zn ?_ | refine zK rfl ?_ | refine zP rfl ?_ | ((first | refine zm ?_ | skip); intro _; intros; simp (disch := first | exact zd | fail) only [↓yS, yT, gresults, gone, ↓reduceIte, Nat.reduceEqDiff, Nat.reduceAdd, Nat.reduceMul, reduceCtorEq, Int.reduceToNat, g51, f1, f3, f6, f9, f10, f11, ptr, hsl.ia, hbd, hr4, d1, d2, d3, hm2X]; first | (rename_i K k; (first | refine yC (k _ _ ?_) | refine zg (k _ ?_)); clear k K) | (rename_i A B C D a b c d; (first | refine zx (a ?_) | refine zy (b ?_) | refine zz (fun hc => c ?_) (fun hc => d ?_) | refine zv (b ?_) | refine zw (a ?_)) <;> clear a b c d A B C D <;> try simp only [yL] at hc)) | refine zA ?_ | refine zB ?_ | refine zF ?_)
    exact d4
  | false =>
  rw [hoff] at hr4
  by_cases hstop : m1.armed = true ∧ m1.left = 0
  · obtain ⟨harm, hl0⟩ := hstop
    rw [harm] at hr2
    rw [hl0] at hr3
    have hw1 : wrR m (at_ o p) = {m1 with off := true} := by
      rw [hwr, wrR, hoff, harm, hl0]; rfl
    have hg : gset (rmC dv m1) 4 (.bool true) = some (rmC dv {m1 with off := true}) := by rw [gset_ok (by simp [rmC]) (by simp [flatV])]; rfl
    have hBY : But (fun z => z = j) H (HX.put H.len (.cells (rmC dv {m1 with off := true}) 0 true)) := by
      refine ⟨hBX.lim, hBX.len, fun k hk hs => ?_, wf_put hwX hlX1 _⟩
      rw [obj_put, if_neg (by omega)]; exact hBX.obj k hk hs
    have hmY : (HX.put H.len (.cells (rmC dv {m1 with off := true}) 0 true)).mine H.len = some (rmC dv {m1 with off := true}, 0) := mine_put_same (mine_obj hmX).1
    have hm2Y : (HX.put H.len (.cells (rmC dv {m1 with off := true}) 0 true)).mine (H.len + 1) = some (z5, 0) := by rw [mine_put_ne (by omega)]; exact hm2X
    have hmjY : (HX.put H.len (.cells (rmC dv {m1 with off := true}) 0 true)).mine j = some (u8s m1.data, 257) := by rw [mine_put_ne (by omega)]; exact hmjX
    obtain ⟨d1, d2, d3, d4⟩ := hret {m1 with off := true} _ hmY hm2Y hmjY hBY hlX hw1
    have hrY : (HX.put H.len (.cells (rmC dv {m1 with off := true}) 0 true)).rd H.len 4 = some (.bool true) := mine_rd hmY
    repeat' (first | (exfalso; omega) | refine zn ?_ | refine zK rfl ?_ | refine zP rfl ?_ | ((first | refine zm ?_ | skip); intro _; intros; simp (disch := first | exact zd | fail) only [↓yS, yT, gresults, gone, ↓reduceIte, Nat.reduceEqDiff, Nat.reduceAdd, Nat.reduceMul, reduceCtorEq, Int.reduceToNat, g51, f1, f3, f6, f9, f10, f11, ptr, hsl.ia, hbd, hr4, hr2, hr3, hmX, hg]; first | (rename_i K k; (first | refine yC (k _ _ ?_) | refine zg (k _ ?_)); clear k K) | (rename_i A B C D a b c d; (first | refine zx (a ?_) | refine zy (b ?_) | refine zz (fun hc => c ?_) (fun hc => d ?_) | refine zv (b ?_) | refine zw (a ?_)) <;> clear a b c d A B C D <;> try simp only [yL] at hc)) | refine zA ?_ | refine zB ?_ | refine zF ?_)
    generalize (HX.put H.len (.cells (rmC dv {m1 with off := true}) 0 true)) = HY at *
    repeat' (first | (exfalso; omega) | refine zn ?_ | refine zK rfl ?_ | refine zP rfl ?_ | ((first | refine zm ?_ | skip); intro _; intros; simp (disch := first | exact zd | fail) only [↓yS, yT, gresults, gone, ↓reduceIte, Nat.reduceEqDiff, Nat.reduceAdd, Nat.reduceMul, reduceCtorEq, Int.reduceToNat, g51, f1, f3, f6, f9, f10, f11, ptr, hrY, d1, d2, d3, hm2Y]; first | (rename_i K k; (first | refine yC (k _ _ ?_) | refine zg (k _ ?_)); clear k K) | (rename_i A B C D a b c d; (first | refine zx (a ?_) | refine zy (b ?_) | refine zz (fun hc => c ?_) (fun hc => d ?_) | refine zv (b ?_) | refine zw (a ?_)) <;> clear a b c d A B C D <;> try simp only [yL] at hc)) | refine zA ?_ | refine zB ?_ | refine zF ?_)
    exact d4
  have hlj := hsd _ hlX
  have hia : ∀ kd, gia none 1 dv (.int kd ((o : Int) + q)) = some (.pointer (some ⟨j, o + q, none⟩)) := fun kd => by
    have := hsd _ rfl kd (o + q) (by omega)
    rw [← this]; congr 2
  have hsetb : (u8s m1.data).set (o + q) (.int .u8 (p[q]!.toNat : Nat)) = u8s (m1.data.set (o + q) p[q]!) := u8s_setb
  cases harm : m1.armed with
  | true =>
    have hl0 : ¬ m1.left = 0 := fun h => hstop ⟨harm, h⟩
    rw [harm] at hr2
    have hw1 : wrR m (at_ o p) = wrR {m1 with left := IntKind.i64.wrap (m1.left - 1), data := m1.data.set (o + q) p[q]!} (at_ (o + q + 1) (p.drop (q + 1))) := by
      rw [hwr, wrR, hoff, harm]
      simp [hl0]
    have hg : gset (rmC dv m1) 3 (.int .i64 (IntKind.i64.wrap (m1.left - 1))) = some (rmC dv {m1 with left := IntKind.i64.wrap (m1.left - 1), data := m1.data.set (o + q) p[q]!}) := by
      rw [gset_ok (by simp [rmC]) (by simp [flatV])]
      simp [rmC, JM.size]
    generalize hm2d : ({m1 with left := IntKind.i64.wrap (m1.left - 1), data := m1.data.set (o + q) p[q]!} : JM) = m2 at *
    have hd2 : m2.data = m1.data.set (o + q) p[q]! := by rw [← hm2d]
    have hc1 : (rmC dv m2)[1]? = some dv := rfl
    have hmY : ((HX.put H.len (.cells (rmC dv m2) 0 true)).put j (.cells (u8s m2.data) 257 true)).mine H.len = some (rmC dv m2, 0) := by rw [mine_put_ne (by omega)]; exact mine_put_same (mine_obj hmX).1
    have hm2Y : ((HX.put H.len (.cells (rmC dv m2) 0 true)).put j (.cells (u8s m2.data) 257 true)).mine (H.len + 1) = some (z5, 0) := by rw [mine_put_ne (by omega), mine_put_ne (by omega)]; exact hm2X
    have hmjY : ((HX.put H.len (.cells (rmC dv m2) 0 true)).put j (.cells (u8s m2.data) 257 true)).mine j = some (u8s m2.data, 257) := mine_put_same (by rw [lim_put]; exact (mine_obj hmjX).1)
    have hBY : But (fun z => z = j) H ((HX.put H.len (.cells (rmC dv m2) 0 true)).put j (.cells (u8s m2.data) 257 true)) := by
      refine ⟨hBX.lim, hBX.len, fun k hk hs => ?_, wf_put (wf_put hwX hlX1 _) (by rw [len_put]; exact hlXj) _⟩
      rw [obj_put, if_neg (by omega), obj_put, if_neg (by omega)]; exact hBX.obj k hk hs
    rw [← hd2] at hsetb
    repeat' (first | (exfalso; omega) | refine zn ?_ | refine zK rfl ?_ | refine zP rfl ?_ | ((first | refine zm ?_ | skip); intro _; intros; simp (disch := first | exact zd | fail) only [↓yS, yT, gresults, gone, ↓reduceIte, Nat.reduceEqDiff, Nat.reduceAdd, Nat.reduceMul, reduceCtorEq, Int.reduceToNat, g51, f1, f3, f6, f9, f10, f11, ptr, hsl.ia, hbd, hr4, hr2, hr3, hmX, hg, hc1, hia, hmjX, hsetb]; first | (rename_i K k; (first | refine yC (k _ _ ?_) | refine zg (k _ ?_)); clear k K) | (rename_i A B C D a b c d; (first | refine zx (a ?_) | refine zy (b ?_) | refine zz (fun hc => c ?_) (fun hc => d ?_) | refine zv (b ?_) | refine zw (a ?_)) <;> clear a b c d A B C D <;> try simp only [yL] at hc)) | refine zA ?_ | refine zB ?_ | refine zF ?_)
    refine hJ _ _ ⟨p.length - (q + 1), by omega, q + 1, m2, rfl, by omega, ?_⟩
    simp only [↓yG, Nat.reduceEqDiff, ↓reduceIte, Int.natCast_add, Int.cast_ofNat_Int, Int.natCast_zero, true_and, and_true, Option.some.injEq, Value.int.injEq, f1, f3, f6, f9, f10, f11, ptr]
    refine ⟨hmY, hm2Y, hmjY, hBY, by rw [hd2, List.length_set]; exact hlX, ?_⟩
    rw [hw1]; rfl
  | false =>
    rw [harm] at hr2
    have hw1 : wrR m (at_ o p) = wrR {m1 with data := m1.data.set (o + q) p[q]!} (at_ (o + q + 1) (p.drop (q + 1))) := by
      rw [hwr, wrR, hoff, harm]
      simp
    have hrm : rmC dv m1 = rmC dv {m1 with data := m1.data.set (o + q) p[q]!} := by simp [rmC, JM.size]
    rw [hrm] at hmX
    generalize hm2d : ({m1 with data := m1.data.set (o + q) p[q]!} : JM) = m2 at *
    have hd2 : m2.data = m1.data.set (o + q) p[q]! := by rw [← hm2d]
    have hmY : (HX.put j (.cells (u8s m2.data) 257 true)).mine H.len = some (rmC dv m2, 0) := by rw [mine_put_ne (by omega)]; exact hmX
    have hm2Y : (HX.put j (.cells (u8s m2.data) 257 true)).mine (H.len + 1) = some (z5, 0) := by rw [mine_put_ne (by omega)]; exact hm2X
    have hmjY : (HX.put j (.cells (u8s m2.data) 257 true)).mine j = some (u8s m2.data, 257) := mine_put_same (mine_obj hmjX).1
    have hBY : But (fun z => z = j) H (HX.put j (.cells (u8s m2.data) 257 true)) := hBX.put rfl hlXj _
    rw [← hd2] at hsetb
    repeat' (first | (exfalso; omega) | refine zn ?_ | refine zK rfl ?_ | refine zP rfl ?_ | ((first | refine zm ?_ | skip); intro _; intros; simp (disch := first | exact zd | fail) only [↓yS, yT, gresults, gone, ↓reduceIte, Nat.reduceEqDiff, Nat.reduceAdd, Nat.reduceMul, reduceCtorEq, Int.reduceToNat, g51, f1, f3, f6, f9, f10, f11, ptr, hsl.ia, hbd, hr4, hr2, hr1, hia, hmjX, hsetb]; first | (rename_i K k; (first | refine yC (k _ _ ?_) | refine zg (k _ ?_)); clear k K) | (rename_i A B C D a b c d; (first | refine zx (a ?_) | refine zy (b ?_) | refine zz (fun hc => c ?_) (fun hc => d ?_) | refine zv (b ?_) | refine zw (a ?_)) <;> clear a b c d A B C D <;> try simp only [yL] at hc)) | refine zA ?_ | refine zB ?_ | refine zF ?_)
    refine hJ _ _ ⟨p.length - (q + 1), by omega, q + 1, m2, rfl, by omega, ?_⟩
    simp only [↓yG, Nat.reduceEqDiff, ↓reduceIte, Int.natCast_add, Int.cast_ofNat_Int, Int.natCast_zero, true_and, and_true, Option.some.injEq, Value.int.injEq, f1, f3, f6, f9, f10, f11, ptr]
    refine ⟨hmY, hm2Y, hmjY, hBY, by rw [hd2, List.length_set]; exact hlX, ?_⟩
    rw [hw1]; rfl
theorem rrecord_ok {H : GHeap} (hw : H.wf) {v : Value} {p : List UInt8} (hv : RB H v p) (hp : p.length < 4294967296) {n : Nat} (hn : n < 4611686018427387904) : ∃ r H', gev G 52 [.int .i64 n, v] H = some (r, H') ∧ OB H H' r (bodyB n p) := by
  refine gev_GW (f := 52) rfl fun Post hPost => ?_
  have hsl := hv.isSl
  have hw1 : IntKind.u64.wrap (p.length : Int) = (p.length : Int) := wrap_u64n (by omega)
  have hw2 : IntKind.u64.wrap (n : Int) = (n : Int) := wrap_u64n (by omega)
  simp only [frameOf, Nat.reduceAdd]
  repeat' (first | (exfalso; omega) | refine zn ?_ | refine zK rfl ?_ | refine zP rfl ?_ | ((first | refine zm ?_ | skip); intro _; intros; simp (disch := first | exact zd | fail) only [↓yS, yT, gresults, gone, ↓reduceIte, Nat.reduceEqDiff, Nat.reduceAdd, Nat.reduceMul, reduceCtorEq, Int.reduceToNat, g52, hsl.len, hw1]; first | (rename_i K k; (first | refine yC (k _ _ ?_) | refine zg (k _ ?_)); clear k K) | (rename_i A B C D a b c d; (first | refine zx (a ?_) | refine zy (b ?_) | refine zz (fun hc => c ?_) (fun hc => d ?_) | refine zv (b ?_) | refine zw (a ?_)) <;> clear a b c d A B C D <;> try simp only [yL] at hc)) | refine zA ?_ | refine zB ?_ | refine zF ?_)
  refine Gw_s fun K' hK' => G1_call (by simp only [gtarget, ↓GArg.ev, ↓evs, ↓Tr.get_set, Nat.reduceEqDiff, if_true, if_false, ↓reduceIte, Option.map_some]; rfl) (rlow_ok hw (n := p.length) (k := 4) (by decide) (by omega)) fun r2 H2 hq2 => hK' _ _ ?_
  repeat' (first | (exfalso; omega) | refine zn ?_ | refine zK rfl ?_ | refine zP rfl ?_ | ((first | refine zm ?_ | skip); intro _; intros; simp (disch := first | exact zd | fail) only [↓yS, yT, gresults, gone, ↓reduceIte, Nat.reduceEqDiff, Nat.reduceAdd, Nat.reduceMul, reduceCtorEq, Int.reduceToNat, g52, hw2]; first | (rename_i K k; (first | refine yC (k _ _ ?_) | refine zg (k _ ?_)); clear k K) | (rename_i A B C D a b c d; (first | refine zx (a ?_) | refine zy (b ?_) | refine zz (fun hc => c ?_) (fun hc => d ?_) | refine zv (b ?_) | refine zw (a ?_)) <;> clear a b c d A B C D <;> try simp only [yL] at hc)) | refine zA ?_ | refine zB ?_ | refine zF ?_)
  refine Gw_s fun K' hK' => G1_call (by simp only [gtarget, ↓GArg.ev, ↓evs, ↓Tr.get_set, Nat.reduceEqDiff, if_true, if_false, ↓reduceIte, Option.map_some]; rfl) (rlow_ok hq2.same.wf (n := n) (k := 8) (by decide) (by omega)) fun r4 H4 hq4 => hK' _ _ ?_
  have hO2 := hq2.later hq4.same
  obtain ⟨v5, H5, e5, hO5⟩ := hO2.app hq4.rb (by rw [leB_length, leB_length]; omega)
  refine Gw_s fun K' hK' => ?_
  simp (disch := first | exact zd | fail) only [↓yS, yT, ↓reduceIte, Nat.reduceEqDiff, Nat.reduceAdd, Nat.reduceMul, reduceCtorEq, Int.reduceToNat]
  refine G1_eq e5 (hK' _ _ ?_)
  clear hK' K' e5
  have hv5 := hv.same_ hw hO5.same
  repeat' (first | (exfalso; omega) | refine zn ?_ | refine zK rfl ?_ | refine zP rfl ?_ | ((first | refine zm ?_ | skip); intro _; intros; simp (disch := first | exact zd | fail) only [↓yS, yT, gresults, gone, ↓reduceIte, Nat.reduceEqDiff, Nat.reduceAdd, Nat.reduceMul, reduceCtorEq, Int.reduceToNat, g52]; first | (rename_i K k; (first | refine yC (k _ _ ?_) | refine zg (k _ ?_)); clear k K) | (rename_i A B C D a b c d; (first | refine zx (a ?_) | refine zy (b ?_) | refine zz (fun hc => c ?_) (fun hc => d ?_) | refine zv (b ?_) | refine zw (a ?_)) <;> clear a b c d A B C D <;> try simp only [yL] at hc)) | refine zA ?_ | refine zB ?_ | refine zF ?_)
  obtain ⟨v6, H6, e6, hO6⟩ := hO5.app hv5 (by rw [List.length_append, leB_length, leB_length]; omega)
  refine Gw_s fun K' hK' => ?_
  simp (disch := first | exact zd | fail) only [↓yS, yT, ↓reduceIte, Nat.reduceEqDiff, Nat.reduceAdd, Nat.reduceMul, reduceCtorEq, Int.reduceToNat]
  refine G1_eq e6 (hK' _ _ ?_)
  clear hK' K' e6
  repeat' (first | (exfalso; omega) | refine zn ?_ | refine zK rfl ?_ | refine zP rfl ?_ | ((first | refine zm ?_ | skip); intro _; intros; simp (disch := first | exact zd | fail) only [↓yS, yT, gresults, gone, ↓reduceIte, Nat.reduceEqDiff, Nat.reduceAdd, Nat.reduceMul, reduceCtorEq, Int.reduceToNat, g52]; first | (rename_i K k; (first | refine yC (k _ _ ?_) | refine zg (k _ ?_)); clear k K) | (rename_i A B C D a b c d; (first | refine zx (a ?_) | refine zy (b ?_) | refine zz (fun hc => c ?_) (fun hc => d ?_) | refine zv (b ?_) | refine zw (a ?_)) <;> clear a b c d A B C D <;> try simp only [yL] at hc)) | refine zA ?_ | refine zB ?_ | refine zF ?_)
  refine Gw_s fun K' hK' => G1_call (by simp only [gtarget, ↓GArg.ev, ↓evs, ↓Tr.get_set, Nat.reduceEqDiff, if_true, if_false, ↓reduceIte, Option.map_some]; rfl) (rseal_ok hO6.same.wf hO6.rb (by rw [List.length_append, List.length_append, leB_length, leB_length]; omega)) fun r7 H7 hq7 => hK' _ _ ?_
  repeat' (first | (exfalso; omega) | refine zn ?_ | refine zK rfl ?_ | refine zP rfl ?_ | ((first | refine zm ?_ | skip); intro _; intros; simp (disch := first | exact zd | fail) only [↓yS, yT, gresults, gone, ↓reduceIte, Nat.reduceEqDiff, Nat.reduceAdd, Nat.reduceMul, reduceCtorEq, Int.reduceToNat, g52]; first | (rename_i K k; (first | refine yC (k _ _ ?_) | refine zg (k _ ?_)); clear k K) | (rename_i A B C D a b c d; (first | refine zx (a ?_) | refine zy (b ?_) | refine zz (fun hc => c ?_) (fun hc => d ?_) | refine zv (b ?_) | refine zw (a ?_)) <;> clear a b c d A B C D <;> try simp only [yL] at hc)) | refine zA ?_ | refine zB ?_ | refine zF ?_)
  refine hPost _ _ ?_
  have : bodyB n p = sealB (leB 4 p.length ++ leB 8 n ++ p) := by unfold bodyB; rw [List.append_assoc]
  rw [this]
  exact hq7.weaken hO6.same
/-- the error ahead of writing -/
def refR (m : JM) (l : JL) (o n : Nat) : Int := if 1099511627776 < l.next then 9 else if m.size ≤ o + 17 + n then 20 else if l.broken = true then 21 else 0
theorem rrefused_ok {H : GHeap} (hw : H.wf) {dv : Value} {m : JM} {l : JL} (hd : flatV dv = true) (hbig : m.data.length < 70368744177664) {v : Value} {p : List UInt8} (hv : RB H v p) {o : Nat} (ho : o < 70368744177664) (hp : p.length < 70368744177664) : ∃ r H', gev G 49 [rmV dv m, rlV l, .int .i64 o, v] H = some (r, H') ∧ (r = .int .i64 (refR m l o p.length) ∧ Same H H') := by
  refine gev_GW (f := 49) rfl fun Post hPost => ?_
  have hsz : m.size = m.data.length / 2 := rfl
  have h1 := rm_all (m := m) hd
  have h2 := rm_list (dv := dv) (m := m)
  have h3 := rl_all (l := l)
  have h4 := rl_list (l := l)
  have hsl := hv.isSl
  have hS := ((Same.refl hw).add (.cells (rmC dv m) 0 true)).add (.cells (rlC l) 0 true)
  have hr0 : ((H.add (some (.cells (rmC dv m) 0 true))).add (some (.cells (rlC l) 0 true))).rd H.len 0 = some (.int .i64 (m.size : Int)) := by rw [rd_add_ne (by rw [len_add]; omega), rd_add_eq rfl]; rfl
  have hr2 : ((H.add (some (.cells (rmC dv m) 0 true))).add (some (.cells (rlC l) 0 true))).rd (H.len + 1) 2 = some (.int .i64 (l.next : Int)) := by rw [rd_add_eq (by rw [len_add])]; rfl
  have hr5 : ((H.add (some (.cells (rmC dv m) 0 true))).add (some (.cells (rlC l) 0 true))).rd (H.len + 1) 5 = some (.bool l.broken) := by rw [rd_add_eq (by rw [len_add])]; rfl
  have hP : ∀ x : Int, refR m l o p.length = x → Post (.int .i64 x) ((H.add (some (.cells (rmC dv m) 0 true))).add (some (.cells (rlC l) 0 true))) := fun x e => hPost _ _ ⟨by rw [e], hS⟩
  clear hPost
  simp only [frameOf, Nat.reduceAdd]
  have hk1 : (rlC l)[2]? = some (.int .i64 (l.next : Int)) := rfl
  have hk2 : (rlC l)[5]? = some (.bool l.broken) := rfl
  have hk3 : (rmC dv m)[0]? = some (.int .i64 (m.size : Int)) := rfl
  unfold refR at hP
  by_cases c1 : 1099511627776 < l.next
  · rw [if_pos c1] at hP
    repeat' (first | (exfalso; omega) | refine zn ?_ | refine zK rfl ?_ | refine zP rfl ?_ | ((first | refine zm ?_ | skip); intro _; intros; simp (disch := first | exact zd | fail) only [↓yS, yT, gresults, gone, ↓reduceIte, Nat.reduceEqDiff, Nat.reduceAdd, Nat.reduceMul, reduceCtorEq, Int.reduceToNat, g49, h1, h2, h3, h4, hr0, hr2, hr5, hk1, hk2, hk3, hsl.len]; first | (rename_i K k; (first | refine yC (k _ _ ?_) | refine zg (k _ ?_)); clear k K) | (rename_i A B C D a b c d; (first | refine zx (a ?_) | refine zy (b ?_) | refine zz (fun hc => c ?_) (fun hc => d ?_) | refine zv (b ?_) | refine zw (a ?_)) <;> clear a b c d A B C D <;> try simp only [yL] at hc)) | refine zA ?_ | refine zB ?_ | refine zF ?_)
    exact hP _ rfl
  rw [if_neg c1] at hP
  by_cases c2 : m.size ≤ o + 17 + p.length
  · rw [if_pos c2] at hP
    repeat' (first | (exfalso; omega) | refine zn ?_ | refine zK rfl ?_ | refine zP rfl ?_ | ((first | refine zm ?_ | skip); intro _; intros; simp (disch := first | exact zd | fail) only [↓yS, yT, gresults, gone, ↓reduceIte, Nat.reduceEqDiff, Nat.reduceAdd, Nat.reduceMul, reduceCtorEq, Int.reduceToNat, g49, h1, h2, h3, h4, hr0, hr2, hr5, hk1, hk2, hk3, hsl.len]; first | (rename_i K k; (first | refine yC (k _ _ ?_) | refine zg (k _ ?_)); clear k K) | (rename_i A B C D a b c d; (first | refine zx (a ?_) | refine zy (b ?_) | refine zz (fun hc => c ?_) (fun hc => d ?_) | refine zv (b ?_) | refine zw (a ?_)) <;> clear a b c d A B C D <;> try simp only [yL] at hc)) | refine zA ?_ | refine zB ?_ | refine zF ?_)
    exact hP _ rfl
  rw [if_neg c2] at hP
  cases hb : l.broken with
  | true =>
    rw [hb] at hk2 hr5
    rw [if_pos hb] at hP
    repeat' (first | (exfalso; omega) | refine zn ?_ | refine zK rfl ?_ | refine zP rfl ?_ | ((first | refine zm ?_ | skip); intro _; intros; simp (disch := first | exact zd | fail) only [↓yS, yT, gresults, gone, ↓reduceIte, Nat.reduceEqDiff, Nat.reduceAdd, Nat.reduceMul, reduceCtorEq, Int.reduceToNat, g49, h1, h2, h3, h4, hr0, hr2, hr5, hk1, hk2, hk3, hsl.len]; first | (rename_i K k; (first | refine yC (k _ _ ?_) | refine zg (k _ ?_)); clear k K) | (rename_i A B C D a b c d; (first | refine zx (a ?_) | refine zy (b ?_) | refine zz (fun hc => c ?_) (fun hc => d ?_) | refine zv (b ?_) | refine zw (a ?_)) <;> clear a b c d A B C D <;> try simp only [yL] at hc)) | refine zA ?_ | refine zB ?_ | refine zF ?_)
    exact hP _ rfl
  | false =>
    rw [hb] at hk2 hr5
    rw [if_neg (by rw [hb]; decide)] at hP
    repeat' (first | (exfalso; omega) | refine zn ?_ | refine zK rfl ?_ | refine zP rfl ?_ | ((first | refine zm ?_ | skip); intro _; intros; simp (disch := first | exact zd | fail) only [↓yS, yT, gresults, gone, ↓reduceIte, Nat.reduceEqDiff, Nat.reduceAdd, Nat.reduceMul, reduceCtorEq, Int.reduceToNat, g49, h1, h2, h3, h4, hr0, hr2, hr5, hk1, hk2, hk3, hsl.len]; first | (rename_i K k; (first | refine yC (k _ _ ?_) | refine zg (k _ ?_)); clear k K) | (rename_i A B C D a b c d; (first | refine zx (a ?_) | refine zy (b ?_) | refine zz (fun hc => c ?_) (fun hc => d ?_) | refine zv (b ?_) | refine zw (a ?_)) <;> clear a b c d A B C D <;> try simp only [yL] at hc)) | refine zA ?_ | refine zB ?_ | refine zF ?_)
    exact hP _ rfl
end Go.Gh
