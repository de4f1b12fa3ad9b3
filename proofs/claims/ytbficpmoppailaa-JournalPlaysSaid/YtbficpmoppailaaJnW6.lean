/-
  The journal, walked: refused, Concat, sealed.
-/
import Derived.Test.YtbficpmoppailaaJnW5
namespace Go.Gh
set_option linter.unusedSimpArgs false
set_option linter.unusedVariables false
set_option maxHeartbeats 4000000
open Go.RowKit
set_option maxRecDepth 4000

/-- the journal's object -/
def LogAt (H : GHeap) (k i : Nat) (l : JL) : Prop := H.mine k = some (logCells (ptr i) l, 0)
theorem refused_ok {H : GHeap} (hw : H.wf) {i j gc k : Nat} {m : JM} {l : JL} (h : MemAt H i j gc m) (hL : LogAt H k i l) (hki : k ≠ i) {o n : Nat} (ho : o < 70368744177664) (hn : n < 70368744177664) :
    ∃ r H', gev G 40 [ptr k, .int .i64 o, .int .i64 n] H = some (r, H') ∧ (r = .int .i64 (refB m l o n) ∧ LogAt H' k i (if refB m l o n = 21 then l.broke else l) ∧ MemAt H' i j gc m ∧ But (fun z => z = k) H H') := by
  refine gev_GW (f := 40) rfl fun Post hPost => ?_
  have hL' : H.mine k = some (logCells (ptr i) l, 0) := hL
  have hrd := fun o => mine_rd (o := o) hL'
  have hrm := h.rd
  have hbig := h.big
  have hsz : m.size = m.data.length / 2 := rfl
  have hkj : k ≠ j := fun e => by subst e; exact mine_ne hL' h.dat (by decide) rfl
  simp only [frameOf, Nat.reduceAdd, ptr]
  have e1 : refB m l o n = if 1099511627776 < l.next then 9 else if m.size ≤ o + 17 + n then 20 else if (l.broken || m.off) = true then 21 else 0 := by
    unfold refB; rfl
  have hsame : ∀ e : Int, e ≠ 21 → refB m l o n = e → Post (.int .i64 e) H := fun e he h2 => hPost _ _ (by
    rw [h2, if_neg he]; exact ⟨rfl, hL, h, But.refl hw⟩)
  have hbr : refB m l o n = 21 → Post (.int .i64 21) (H.put k (.cells (logCells (ptr i) l.broke) 0 true)) := fun h2 => hPost _ _ (by
    rw [h2, if_pos rfl]
    have hb : But (fun z => z = k) H (H.put k (.cells (logCells (ptr i) l.broke) 0 true)) := (But.refl (S := fun z => z = k) hw).put (i := k) rfl (mine_lt hw hL') _
    refine ⟨rfl, mine_put_same (mine_obj hL').1, ⟨?_, ?_, h.ne, h.cap, h.big, h.low⟩, hb⟩
    · rw [mine_put_ne hki]; exact h.obj
    · rw [mine_put_ne hkj]; exact h.dat)
  repeat' (first | refine zn ?_ | refine zK rfl ?_ | refine zP rfl ?_ | ((first | refine zm ?_ | skip); intro _; intros; simp (disch := first | exact zd | fail) only [↓yS, yT, gresults, gone, ↓reduceIte, Nat.reduceEqDiff, Nat.reduceAdd, Nat.reduceMul, reduceCtorEq, Int.reduceToNat, g40, ptr, hrd, logCells]; first | (rename_i K k; (first | refine yC (k _ _ ?_) | refine zg (k _ ?_)); clear k K) | (rename_i A B C D a b c d; (first | refine zx (a ?_) | refine zy (b ?_) | refine zz (fun hc => c ?_) (fun hc => d ?_) | refine zv (b ?_) | refine zw (a ?_)) <;> clear a b c d A B C D <;> try simp only [yL] at hc)) | refine zA ?_ | refine zB ?_ | refine zF ?_)
  case refine_1 => exact hsame 9 (by decide) (by rw [e1, if_pos (by omega)])
  case refine_2 =>
  refine Gw_s fun K' hK' => G1_call (by simp only [gtarget, ↓GArg.ev, ↓evs, ↓Tr.get_set, Nat.reduceEqDiff, if_true, if_false, ↓reduceIte, Option.map_some, ptr]; rfl) (size_ok h) fun r2 H2 hq => hK' _ _ ?_
  obtain ⟨rfl, rfl⟩ := hq
  repeat' (first | refine zn ?_ | refine zK rfl ?_ | refine zP rfl ?_ | ((first | refine zm ?_ | skip); intro _; intros; simp (disch := first | exact zd | fail) only [↓yS, yT, gresults, gone, ↓reduceIte, Nat.reduceEqDiff, Nat.reduceAdd, Nat.reduceMul, reduceCtorEq, Int.reduceToNat, g40, ptr, hrd, hrm, memCells, logCells, hL']; first | (rename_i K k; (first | refine yC (k _ _ ?_) | refine zg (k _ ?_)); clear k K) | (rename_i A B C D a b c d; (first | refine zx (a ?_) | refine zy (b ?_) | refine zz (fun hc => c ?_) (fun hc => d ?_) | refine zv (b ?_) | refine zw (a ?_)) <;> clear a b c d A B C D <;> try simp only [yL] at hc)) | refine zA ?_ | refine zB ?_ | refine zF ?_)
  case refine_1 => exact hsame 20 (by decide) (by rw [e1, if_neg (by omega), if_pos (by omega)])
  case refine_2.refine_1 => exact hbr (by rw [e1, if_neg (by omega), if_neg (by omega), if_pos (by rw [hc]; rfl)])
  case refine_2.refine_2.refine_1 => exact hbr (by rw [e1, if_neg (by omega), if_neg (by omega), if_pos (by rw [hc]; simp)])
  case refine_2.refine_2.refine_2 h1 h2 h3 => exact hsame 0 (by decide) (by rw [e1, if_neg (by omega), if_neg (by omega), if_neg (by rw [hc, h3]; decide)])
/-- bytes that were made since, in a row that may be longer -/
def OW (H0 H : GHeap) (v : Value) (l : List UInt8) : Prop :=
  Same H0 H ∧ ((v = .slice none 0 0 ∧ l = []) ∨ ∃ i cs, v = .slice (some ⟨i, 0, none⟩) l.length 0 ∧ H.mine i = some (cs, 257) ∧ l.length ≤ cs.length ∧ cs.take l.length = u8s l ∧ H0.len ≤ i)
theorem OW.rb {H0 H : GHeap} {v : Value} {l : List UInt8} (h : OW H0 H v l) : RB H v l := by
  obtain ⟨hS, ⟨rfl, rfl⟩ | ⟨i, cs, rfl, hm, h1, h2, h3⟩⟩ := h
  · exact RB.nil
  · refine ⟨⟨by rw [u8s_length, Nat.mul_one], _, 0, rfl, fun _ => ⟨i, 0, cs, rfl, mine_lt hS.wf hm, mine_cs hm, fun j u hu => ?_⟩⟩, _, 0, rfl, .inl rfl, fun _ => .inr ⟨_, _, rfl⟩, fun i' o' e => ?_⟩
    · rw [Nat.zero_add]
      rw [← h2] at hu
      have hj : j < l.length := by
        have := (List.getElem?_eq_some_iff.1 hu).1
        simp at this; omega
      rw [List.getElem?_take_of_lt hj] at hu
      exact hu
    · cases e
      exact ⟨257, by unfold GHeap.unit; rw [(mine_obj hm).2]; rfl, .inr rfl⟩
theorem OW.later {H0 H H' : GHeap} {v : Value} {l : List UInt8} (h : OW H0 H v l) (hs : Same H H') : OW H0 H' v l := by
  obtain ⟨hS, h⟩ := h
  refine ⟨hS.trans hs, h.imp id fun ⟨i, cs, e, hm, h1⟩ => ⟨i, cs, e, ?_, h1⟩⟩
  rw [hs.mine (mine_lt hS.wf hm)]; exact hm
theorem OW.app {H0 H : GHeap} {v x : Value} {a b : List UInt8} (h : OW H0 H v a) (hx : RB H x b) (hl : a.length + b.length ≤ 140737488355328) :
    ∃ v' H', gapp 1 1 257 H v x = some (v', H') ∧ OW H0 H' v' (a ++ b) := by
  obtain ⟨hS, h⟩ := h
  have h1 := hx.count
  have h2 := hx.cells
  have hlim := hS.wf.1
  have hSl := hS.len
  by_cases hb : b.length = 0
  · obtain rfl : b = [] := List.eq_nil_of_length_eq_zero hb
    refine ⟨v, H, ?_, hS, by simpa using h⟩
    have : ∃ av n gc, v = .slice av n gc := by
      rcases h with ⟨e, _⟩ | ⟨i, cs, e, _⟩
      · exact ⟨_, _, _, e⟩
      · exact ⟨_, _, _, e⟩
    obtain ⟨av, n, gc, rfl⟩ := this
    simp only [gapp, h1, Option.bind_some, h2]
    rfl
  · have hnl : (u8s b).length = b.length * 1 := by rw [u8s_length, Nat.mul_one]
    rcases h with ⟨rfl, rfl⟩ | ⟨i, cs, rfl, hm, h3, h4, h5⟩
    · refine ⟨.slice (some ⟨H.len, 0, none⟩) b.length 0, H.add (some (.cells (u8s b) 257 true)), ?_, hS.add _, .inr ⟨H.len, u8s b, by simp, ?_, by simp [u8s_length], by simp [← u8s_length (l := b)], hSl⟩⟩
      · simp only [gapp, h1, Option.bind_some, h2]
        rw [if_neg hb, if_pos ⟨by simp at hl ⊢; omega, by simp at hl ⊢; omega, by decide, hnl⟩]
        rfl
      · exact mine_add_eq rfl hlim
    · have hlt := mine_lt hS.wf hm
      refine ⟨.slice (some ⟨H.len, 0, none⟩) (a.length + b.length) 0, (H.put i (.dead 257)).add (some (.cells (u8s (a ++ b)) 257 true)), ?_, (hS.put h5 hlt _).add _, .inr ⟨H.len, u8s (a ++ b), by simp, ?_, by simp [u8s_length], by rw [← u8s_length (l := a ++ b), List.take_length], hSl⟩⟩
      · simp only [gapp, h1, Option.bind_some, h2]
        rw [if_neg hb, if_pos ⟨by omega, by omega, by decide, hnl⟩]
        simp only [hm, if_true]
        rw [if_pos ⟨trivial, by decide, by omega⟩, List.drop_zero, Nat.mul_one, h4, u8s_append]
      · exact mine_add_eq rfl hlim
theorem grow_ok' {H : GHeap} (hw : H.wf) {n : Nat} (hn : n < 70368744177664) : ∃ r H', gev G 62 [.slice none 0 0, .int .i64 n] H = some (r, H') ∧ OW H H' r [] := by
  refine gev_GW (f := 62) rfl fun Post hPost => ?_
  have hlim := hw.1
  have hgz : 0 < n → gappZ 1 1 257 [.int .u8 0] H (.slice none 0 0) (.int .i64 n) = some (.slice (some ⟨H.len, 0, none⟩) n 0, H.add (some (.cells (zeros [.int .u8 0] n) 257 true))) := fun h => by
    have hzl : (zeros [Value.int .u8 0] n).length = n * 1 := by rw [zeros_u8, u8s_length]; simp
    have hwn : IntKind.i64.wrap (n : Int) = n := wr_i64 (by omega)
    simp only [gappZ, hwn, Int.toNat_natCast]
    rw [if_pos (by omega)]
    simp only [gappL]
    rw [if_neg (by omega), if_pos ⟨by omega, by omega, by decide, hzl⟩]
    rfl
  have hsl : ∀ c, gslice (.sl 1) (H.add (some (.cells c 257 true))) (.slice (some ⟨H.len, 0, none⟩) n 0) none (some (.int .i64 0)) none = some (.slice (some ⟨H.len, 0, none⟩) 0 0) := fun c => by
    have hu : (H.add (some (.cells c 257 true))).unit H.len = some 257 := by
      unfold GHeap.unit; rw [obj_add, if_pos rfl]; rfl
    have hb : gbounds n n none (some (.int .i64 0)) = some (0, 0) := by
      simp only [gbounds]; rw [if_pos (by omega)]; rfl
    simp only [gslice, hu]
    rw [if_pos (.inr rfl)]
    simp [hb]
  simp only [frameOf, Nat.reduceAdd]
  have hnil : ∀ H : GHeap, gslice (.sl 1) H (.slice none 0 0) none (some (.int .i64 0)) none = some (.slice none 0 0) := fun _ => rfl
  rcases Nat.eq_zero_or_pos n with rfl | hn0
  · repeat' (first | (exfalso; omega) | refine zn ?_ | refine zK rfl ?_ | refine zP rfl ?_ | ((first | refine zm ?_ | skip); intro _; intros; simp (disch := first | exact zd | fail) only [↓yS, yT, gresults, gone, ↓reduceIte, Nat.reduceEqDiff, Nat.reduceAdd, Nat.reduceMul, reduceCtorEq, Int.reduceToNat, g62, Int.natCast_zero, Int.sub_zero, Int.sub_self]; first | (rename_i K k; (first | refine yC (k _ _ ?_) | refine zg (k _ ?_)); clear k K) | (rename_i A B C D a b c d; (first | refine zx (a ?_) | refine zy (b ?_) | refine zz (fun hc => c ?_) (fun hc => d ?_) | refine zv (b ?_) | refine zw (a ?_)) <;> clear a b c d A B C D <;> try simp only [yL] at hc)) | refine zA ?_ | refine zB ?_ | refine zF ?_)
    exact hPost _ _ ⟨Same.refl hw, .inl ⟨rfl, rfl⟩⟩
  have hgz := hgz hn0
  repeat' (first | (exfalso; omega) | refine zn ?_ | refine zK rfl ?_ | refine zP rfl ?_ | ((first | refine zm ?_ | skip); intro _; intros; simp (disch := first | exact zd | fail) only [↓yS, yT, gresults, gone, ↓reduceIte, Nat.reduceEqDiff, Nat.reduceAdd, Nat.reduceMul, reduceCtorEq, Int.reduceToNat, g62, hgz, hsl, hnil, Int.natCast_zero, Int.sub_zero, Int.sub_self]; first | (rename_i K k; (first | refine yC (k _ _ ?_) | refine zg (k _ ?_)); clear k K) | (rename_i A B C D a b c d; (first | refine zx (a ?_) | refine zy (b ?_) | refine zz (fun hc => c ?_) (fun hc => d ?_) | refine zv (b ?_) | refine zw (a ?_)) <;> clear a b c d A B C D <;> try simp only [yL] at hc)) | refine zA ?_ | refine zB ?_ | refine zF ?_)
  refine hPost _ _ ⟨(Same.refl hw).add _, .inr ⟨H.len, u8s (List.replicate n 0), rfl, mine_add_eq rfl hlim, by simp, by simp [u8s], Nat.le_refl _⟩⟩
abbrev VB := Value × List UInt8
instance : Inhabited VB := ⟨(.slice none 0 0, [])⟩
def catB (L : List VB) : List UInt8 := L.flatMap (·.2)
theorem catB_take {L : List VB} {j : Nat} (h : j < L.length) : catB (L.take (j + 1)) = catB (L.take j) ++ L[j]!.2 := by
  rw [catB, List.take_succ_eq_append_getElem h, List.flatMap_append, getElem!_pos L j h]
  simp [catB]
theorem catB_le {L : List VB} : ∀ j, (catB (L.take j)).length ≤ (catB L).length := fun j => by
  have : catB L = catB (L.take j) ++ catB (L.drop j) := by rw [catB, catB, catB, ← List.flatMap_append, List.take_append_drop]
  rw [this]; simp
theorem concat_ok {H : GHeap} (hw : H.wf) {v : Value} {L : List VB} (hv : GRd H 1 v L.length (L.map (·.1))) (hL : ∀ x ∈ L, RB H x.1 x.2) (hl : L.length < 1000) (hcl : (catB L).length < 70368744177664) :
    ∃ r H', gev G 57 [v] H = some (r, H') ∧ OW H H' r (catB L) := by
  refine gev_GW (f := 57) rfl fun Post hPost => ?_
  have hsl := hv.isSl
  have hrd : ∀ j, j < L.length → ∀ H', Same H H' → H'.rd (blk v) (ofs v + j) = some L[j]!.1 := fun j hj H' hs => by
    rw [hs.rd (hv.lt (by omega)), hv.rd (by rw [List.length_map]; exact hj), List.getElem?_map, gget hj]; rfl
  have hmem : ∀ j, j < L.length → L[j]! ∈ L := fun j hj => by rw [getElem!_pos L j hj]; exact List.getElem_mem hj
  have hrb : ∀ j, j < L.length → RB H L[j]!.1 L[j]!.2 := fun j hj => hL _ (hmem j hj)
  simp only [frameOf, Nat.reduceAdd]
  repeat' (first | refine zn ?_ | refine zK rfl ?_ | refine zP rfl ?_ | ((first | refine zm ?_ | skip); intro _; intros; simp (disch := first | exact zd | fail) only [↓yS, yT, gresults, gone, ↓reduceIte, Nat.reduceEqDiff, Nat.reduceAdd, Nat.reduceMul, reduceCtorEq, Int.reduceToNat, g57, hsl.len]; first | (rename_i K k; (first | refine yC (k _ _ ?_) | refine zg (k _ ?_)); clear k K) | (rename_i A B C D a b c d; (first | refine zx (a ?_) | refine zy (b ?_) | refine zz (fun hc => c ?_) (fun hc => d ?_) | refine zv (b ?_) | refine zw (a ?_)) <;> clear a b c d A B C D <;> try simp only [yL] at hc)) | refine zA ?_ | refine zB ?_ | refine zF ?_)
  refine GW_loop (fun k fr H1 => ∃ (j : Nat), j ≤ L.length ∧ k = L.length - j ∧ fr.get 0 = some (v) ∧ fr.get 3 = some (.int .i64 ((catB (L.take j)).length : Int)) ∧ fr.get 9 = some (v) ∧ fr.get 10 = some (.int .i64 L.length) ∧ fr.get 11 = some (.int .i64 j) ∧ H1 = H) ?_ L.length ?_
  case refine_2 =>
    refine ⟨0, by omega, by omega, ?_⟩
    simp only [↓yG, Nat.reduceEqDiff, ↓reduceIte, Int.natCast_add, Int.cast_ofNat_Int, Int.natCast_zero, true_and, and_true, Option.some.injEq, Value.int.injEq]
    simp [catB]
  rintro k fr H1 ⟨j, hj, rfl, f0, f3, f9, f10, f11, rfl⟩ J hJ
  have hle := catB_le (L := L) j
  have hle2 := catB_le (L := L) (j + 1)
  have hS0 := Same.refl hw
  have hrd0 : j < L.length → H1.rd (blk v) (ofs v + j) = some L[j]!.1 := fun h => hrd j h H1 hS0
  have hlen0 : j < L.length → glen false L[j]!.1 = some (.int .i64 L[j]!.2.length) := fun h => (hrb j h).isSl.len
  have hct : j < L.length → (catB (L.take (j + 1))).length = (catB (L.take j)).length + L[j]!.2.length := fun h => by rw [catB_take h, List.length_append]
  repeat' (first | refine zn ?_ | refine zK rfl ?_ | refine zP rfl ?_ | ((first | refine zm ?_ | skip); intro _; intros; simp (disch := first | exact zd | fail) only [↓yS, yT, gresults, gone, ↓reduceIte, Nat.reduceEqDiff, Nat.reduceAdd, Nat.reduceMul, reduceCtorEq, Int.reduceToNat, g57, f0, f3, f9, f10, f11, hsl.len, hsl.ia, hrd0, hlen0]; first | (rename_i K k; (first | refine yC (k _ _ ?_) | refine zg (k _ ?_)); clear k K) | (rename_i A B C D a b c d; (first | refine zx (a ?_) | refine zy (b ?_) | refine zz (fun hc => c ?_) (fun hc => d ?_) | refine zv (b ?_) | refine zw (a ?_)) <;> clear a b c d A B C D <;> try simp only [yL] at hc)) | refine zA ?_ | refine zB ?_ | refine zF ?_)
  case refine_1.refine_1 =>
    have hct := hct (by omega)
    refine hJ _ _ ⟨L.length - (j + 1), by omega, j + 1, by omega, rfl, ?_⟩
    rw [hct]
    simp only [↓yG, Nat.reduceEqDiff, ↓reduceIte, Int.natCast_add, Int.cast_ofNat_Int, Int.natCast_zero, true_and, and_true, Option.some.injEq, Value.int.injEq, f0, f9, f10]
  case refine_1.refine_2 =>
  obtain rfl : j = L.length := by omega
  rw [List.take_length] at *
  refine Gw_s fun K' hK' => G1_call (by simp only [gtarget, ↓GArg.ev, ↓evs, ↓Tr.get_set, Nat.reduceEqDiff, if_true, if_false, ↓reduceIte, Option.map_some]; rfl) (grow_ok' hw hcl) fun r2 H2 hq => hK' _ _ ?_
  repeat' (first | refine zn ?_ | refine zK rfl ?_ | refine zP rfl ?_ | ((first | refine zm ?_ | skip); intro _; intros; simp (disch := first | exact zd | fail) only [↓yS, yT, gresults, gone, ↓reduceIte, Nat.reduceEqDiff, Nat.reduceAdd, Nat.reduceMul, reduceCtorEq, Int.reduceToNat, g57, f0, f9, f10, hsl.len]; first | (rename_i K k; (first | refine yC (k _ _ ?_) | refine zg (k _ ?_)); clear k K) | (rename_i A B C D a b c d; (first | refine zx (a ?_) | refine zy (b ?_) | refine zz (fun hc => c ?_) (fun hc => d ?_) | refine zv (b ?_) | refine zw (a ?_)) <;> clear a b c d A B C D <;> try simp only [yL] at hc)) | refine zA ?_ | refine zB ?_ | refine zF ?_)
  refine GW_loop (fun k fr H3 => ∃ (j : Nat) (w : Value), j ≤ L.length ∧ k = L.length - j ∧ fr.get 6 = some (w) ∧ fr.get 25 = some (v) ∧ fr.get 26 = some (.int .i64 L.length) ∧ fr.get 27 = some (.int .i64 j) ∧ OW H1 H3 w (catB (L.take j))) ?_ L.length ?_
  case refine_2 =>
    refine ⟨0, r2, by omega, by omega, ?_⟩
    simp only [↓yG, Nat.reduceEqDiff, ↓reduceIte, Int.natCast_add, Int.cast_ofNat_Int, Int.natCast_zero, true_and, and_true, Option.some.injEq, Value.int.injEq, f0]
    exact hq
  rintro k fr H3 ⟨j, w, hj, rfl, f6, f25, f26, f27, hO⟩ J2 hJ2
  have hle := catB_le (L := L) j
  have hle2 := catB_le (L := L) (j + 1)
  have hrd0 : j < L.length → H3.rd (blk v) (ofs v + j) = some L[j]!.1 := fun h => hrd j h H3 hO.1
  repeat' (first | refine zn ?_ | refine zK rfl ?_ | refine zP rfl ?_ | ((first | refine zm ?_ | skip); intro _; intros; simp (disch := first | exact zd | fail) only [↓yS, yT, gresults, gone, ↓reduceIte, Nat.reduceEqDiff, Nat.reduceAdd, Nat.reduceMul, reduceCtorEq, Int.reduceToNat, g57, f6, f25, f26, f27, hsl.len, hsl.ia, hrd0]; first | (rename_i K k; (first | refine yC (k _ _ ?_) | refine zg (k _ ?_)); clear k K) | (rename_i A B C D a b c d; (first | refine zx (a ?_) | refine zy (b ?_) | refine zz (fun hc => c ?_) (fun hc => d ?_) | refine zv (b ?_) | refine zw (a ?_)) <;> clear a b c d A B C D <;> try simp only [yL] at hc)) | refine zA ?_ | refine zB ?_ | refine zF ?_)
  case refine_1.refine_2 =>
    refine hPost _ _ ?_
    obtain rfl : j = L.length := by omega
    rw [List.take_length] at hO
    exact hO
  case refine_1.refine_1 hjl =>
    have hct : (catB (L.take (j + 1))).length = (catB (L.take j)).length + L[j]!.2.length := by rw [catB_take (by omega), List.length_append]
    refine Gw_s fun K' hK' => ?_
    simp (disch := first | exact zd | fail) only [↓yS, yT, ↓reduceIte, Nat.reduceEqDiff, Nat.reduceAdd, Nat.reduceMul, reduceCtorEq, Int.reduceToNat, f6, f25, f26, f27]
    obtain ⟨v', H', e, hO2⟩ := hO.app ((hrb j (by omega)).same_ hw hO.1) (by omega)
    refine G1_eq e (hK' _ _ ?_)
    clear hK' K' e
    repeat' (first | refine zn ?_ | refine zK rfl ?_ | refine zP rfl ?_ | ((first | refine zm ?_ | skip); intro _; intros; simp (disch := first | exact zd | fail) only [↓yS, yT, gresults, gone, ↓reduceIte, Nat.reduceEqDiff, Nat.reduceAdd, Nat.reduceMul, reduceCtorEq, Int.reduceToNat, g57, f6, f25, f26, f27]; first | (rename_i K k; (first | refine yC (k _ _ ?_) | refine zg (k _ ?_)); clear k K) | (rename_i A B C D a b c d; (first | refine zx (a ?_) | refine zy (b ?_) | refine zz (fun hc => c ?_) (fun hc => d ?_) | refine zv (b ?_) | refine zw (a ?_)) <;> clear a b c d A B C D <;> try simp only [yL] at hc)) | refine zA ?_ | refine zB ?_ | refine zF ?_)
    refine hJ2 _ _ ⟨L.length - (j + 1), by omega, j + 1, v', by omega, rfl, ?_⟩
    simp only [↓yG, Nat.reduceEqDiff, ↓reduceIte, Int.natCast_add, Int.cast_ofNat_Int, Int.natCast_zero, true_and, and_true, Option.some.injEq, Value.int.injEq, f25, f26]
    rw [catB_take (by omega)]; exact hO2
theorem OW.down {H H' : GHeap} {v : Value} {l : List UInt8} (hw : H.wf) (h : OW H.up H' v l) : OW H (H'.down H.lim) v l :=
  ⟨h.1.down hw, h.2.imp id fun ⟨i, cs, e, hm, h1⟩ => ⟨i, cs, e, mine_down hm (by rw [h.1.lim]; exact hw.1), h1⟩⟩
theorem OB.weaken {H0 H1 H2 : GHeap} {v : Value} {l : List UInt8} (h : OB H1 H2 v l) (hs : Same H0 H1) : OB H0 H2 v l :=
  ⟨hs.trans h.same, h.own, h.young.imp id fun e => Nat.le_trans hs.len e⟩
theorem RB.flat {H : GHeap} {v : Value} {l : List UInt8} (h : RB H v l) : flatV v = true := by
  obtain ⟨_, a, gc, rfl, _⟩ := h.rd; rfl
theorem fill3s {a b c : Value} (ha : flatV a = true) (hb : flatV b = true) (hc : flatV c = true) : fillL (List.replicate 3 (.slice none 0 0)) [(0, 1, a), (1, 1, b), (2, 1, c)] = some [a, b, c] := by
  rw [fillL_set _ _ (by simp [ha, hb, hc])]; rfl
theorem sealed_ok {H : GHeap} (hw : H.wf) {k i : Nat} {l : JL} (hL : LogAt H k i l) {v : Value} {p : List UInt8} (hv : RB H v p) (hp : p.length < 4294967296) (hn : l.next < 4611686018427387904) :
    ∃ r H', gev G 42 [ptr k, v] H = some (r, H') ∧ OB H H' r (bodyB l.next p) := by
  refine gev_GW (f := 42) rfl fun Post hPost => ?_
  have hL' : H.mine k = some (logCells (ptr i) l, 0) := hL
  have hrd := fun o => mine_rd (o := o) hL'
  have hlt := mine_lt hw hL'
  have hsl := hv.isSl
  have hw1 : IntKind.u64.wrap (p.length : Int) = (p.length : Int) := wrap_u64n (by omega)
  have hw2 : IntKind.u64.wrap (l.next : Int) = (l.next : Int) := wrap_u64n (by omega)
  simp only [frameOf, Nat.reduceAdd, ptr]
  repeat' (first | refine zn ?_ | refine zK rfl ?_ | refine zP rfl ?_ | ((first | refine zm ?_ | skip); intro _; intros; simp (disch := first | exact zd | fail) only [↓yS, yT, gresults, gone, ↓reduceIte, Nat.reduceEqDiff, Nat.reduceAdd, Nat.reduceMul, reduceCtorEq, Int.reduceToNat, g42, hsl.len, hw1]; first | (rename_i K k; (first | refine yC (k _ _ ?_) | refine zg (k _ ?_)); clear k K) | (rename_i A B C D a b c d; (first | refine zx (a ?_) | refine zy (b ?_) | refine zz (fun hc => c ?_) (fun hc => d ?_) | refine zv (b ?_) | refine zw (a ?_)) <;> clear a b c d A B C D <;> try simp only [yL] at hc)) | refine zA ?_ | refine zB ?_ | refine zF ?_)
  refine Gw_s fun K' hK' => G1_callM (by simp only [gtarget, ↓GArg.ev, ↓evs, ↓Tr.get_set, Nat.reduceEqDiff, if_true, if_false, ↓reduceIte, Option.map_some]; rfl) (low_ok (wf_up hw) (n := p.length) (k := 4) (by decide) (by omega)) fun r2 H2 hq2 => hK' _ _ ?_
  have hO2 := hq2.down hw
  generalize H2.down H.lim = H3 at hO2
  have hrd3 : ∀ o, H3.rd k o = (logCells (ptr i) l)[o]? := fun o => by rw [hO2.same.rd hlt]; exact hrd o
  repeat' (first | refine zn ?_ | refine zK rfl ?_ | refine zP rfl ?_ | ((first | refine zm ?_ | skip); intro _; intros; simp (disch := first | exact zd | fail) only [↓yS, yT, gresults, gone, ↓reduceIte, Nat.reduceEqDiff, Nat.reduceAdd, Nat.reduceMul, reduceCtorEq, Int.reduceToNat, g42, hsl.len, hrd3, logCells, hw2]; first | (rename_i K k; (first | refine yC (k _ _ ?_) | refine zg (k _ ?_)); clear k K) | (rename_i A B C D a b c d; (first | refine zx (a ?_) | refine zy (b ?_) | refine zz (fun hc => c ?_) (fun hc => d ?_) | refine zv (b ?_) | refine zw (a ?_)) <;> clear a b c d A B C D <;> try simp only [yL] at hc)) | refine zA ?_ | refine zB ?_ | refine zF ?_)
  refine Gw_s fun K' hK' => G1_callM (by simp only [gtarget, ↓GArg.ev, ↓evs, ↓Tr.get_set, Nat.reduceEqDiff, if_true, if_false, ↓reduceIte, Option.map_some]; rfl) (low_ok (wf_up hO2.same.wf) (n := l.next) (k := 8) (by decide) (by omega)) fun r4 H4 hq4 => hK' _ _ ?_
  have hO4 := hq4.down hO2.same.wf
  generalize H4.down H3.lim = H5 at hO4
  have hw5 := hO4.same.wf
  have hlim5 := hw5.1
  have hR2 := (hO2.later hO4.same).rb
  have hRv := hv.same_ hw (hO2.same.trans hO4.same)
  have hf3 := fill3s hR2.flat hO4.rb.flat hRv.flat
  repeat' (first | refine zn ?_ | refine zK rfl ?_ | refine zP rfl ?_ | ((first | refine zm ?_ | skip); intro _; intros; simp (disch := first | exact zd | fail) only [↓yS, yT, gresults, gone, ↓reduceIte, Nat.reduceEqDiff, Nat.reduceAdd, Nat.reduceMul, reduceCtorEq, Int.reduceToNat, g42, hf3]; first | (rename_i K k; (first | refine yC (k _ _ ?_) | refine zg (k _ ?_)); clear k K) | (rename_i A B C D a b c d; (first | refine zx (a ?_) | refine zy (b ?_) | refine zz (fun hc => c ?_) (fun hc => d ?_) | refine zv (b ?_) | refine zw (a ?_)) <;> clear a b c d A B C D <;> try simp only [yL] at hc)) | refine zA ?_ | refine zB ?_ | refine zF ?_)
  have hS6 := hO4.same.add (.cells [r2, r4, v] 1 true)
  have hS56 := (Same.refl hw5).add (.cells [r2, r4, v] 1 true)
  have hm6 : (H5.add (some (.cells [r2, r4, v] 1 true))).mine H5.len = some ([r2, r4, v], 1) := mine_add_eq rfl hlim5
  have hlt6 := mine_lt hS6.wf hm6
  have hcat : catB [(r2, leB 4 p.length), (r4, leB 8 l.next), (v, p)] = leB 4 p.length ++ (leB 8 l.next ++ p) := by simp [catB]
  have hcl : (leB 4 p.length ++ (leB 8 l.next ++ p)).length = 12 + p.length := by simp [leB_length]; omega
  generalize hH6 : H5.add (some (.cells [r2, r4, v] 1 true)) = H6 at hS6 hS56 hm6 hlt6
  have hS06 := (hO2.same.trans hO4.same).trans hS56
  refine Gw_s fun K' hK' => G1_callM (by simp only [gtarget, ↓GArg.ev, ↓evs, ↓Tr.get_set, Nat.reduceEqDiff, if_true, if_false, ↓reduceIte, Option.map_some]; rfl) (concat_ok (L := [(r2, leB 4 p.length), (r4, leB 8 l.next), (v, p)]) (wf_up hS6.wf) ⟨rfl, _, _, rfl, fun _ => ⟨H5.len, 0, [r2, r4, v], rfl, hlt6, mine_cs hm6, fun j u hu => by rw [Nat.zero_add]; exact hu⟩⟩ ?_ (by simp) (by rw [hcat, hcl]; omega)) fun r7 H7 hq7 => hK' _ _ ?_
  case refine_1 =>
    intro x hx
    simp only [List.mem_cons, List.not_mem_nil, or_false] at hx
    rcases hx with rfl | rfl | rfl
    · exact (hR2.same_ hw5 hS56).up
    · exact (hO4.rb.same_ hw5 hS56).up
    · exact (hRv.same_ hw5 hS56).up
  rw [hcat] at hq7
  have hO8 := hq7.down hS6.wf
  generalize H7.down H6.lim = H8 at hO8
  refine Gw_s fun K' hK' => G1_callM (by simp only [gtarget, ↓GArg.ev, ↓evs, ↓Tr.get_set, Nat.reduceEqDiff, if_true, if_false, ↓reduceIte, Option.map_some]; rfl) (seal_ok (wf_up hO8.1.wf) hO8.rb.up (by rw [hcl]; omega)) fun r9 H9 hq9 => hK' _ _ ?_
  have hO9 := hq9.down hO8.1.wf
  repeat' (first | refine zn ?_ | refine zK rfl ?_ | refine zP rfl ?_ | ((first | refine zm ?_ | skip); intro _; intros; simp (disch := first | exact zd | fail) only [↓yS, yT, gresults, gone, ↓reduceIte, Nat.reduceEqDiff, Nat.reduceAdd, Nat.reduceMul, reduceCtorEq, Int.reduceToNat, g42]; first | (rename_i K k; (first | refine yC (k _ _ ?_) | refine zg (k _ ?_)); clear k K) | (rename_i A B C D a b c d; (first | refine zx (a ?_) | refine zy (b ?_) | refine zz (fun hc => c ?_) (fun hc => d ?_) | refine zv (b ?_) | refine zw (a ?_)) <;> clear a b c d A B C D <;> try simp only [yL] at hc)) | refine zA ?_ | refine zB ?_ | refine zF ?_)
  exact hPost _ _ (hO9.weaken (hS06.trans hO8.1))
end Go.Gh
