/-
  A strings.Builder, walked (as in latin's texts); WriteString.
-/
import Derived.Test.YtjjcgaompnjbdaaDoorSyC4
import Derived.Test.YtjjcgaompnjbdaaDoorBd
namespace Go.Gh
set_option linter.unusedSimpArgs false
set_option linter.unusedVariables false
set_option maxHeartbeats 4000000
open Go.RowKit
set_option maxRecDepth 4000

structure Bld (H0 H : GHeap) (b : Nat) (l : List UInt8) : Prop where
  ex : ∃ p s, H.mine b = some ([p, s], 258) ∧ (p = .pointer none ∨ p = self b) ∧ OS 1 257 H0 H s l.length (u8s l) ∧ (l = [] → s = .slice none 0 0)
  young : H0.len ≤ b
theorem Bld.new {H : GHeap} (hw : H.wf) : Bld H (H.add (some (.cells [.pointer none, .slice none 0 0] 258 true))) H.len [] :=
  ⟨⟨_, _, mine_add_eq rfl hw.1, .inl rfl, OS.nil ((Same.refl hw).add _), fun _ => rfl⟩, Nat.le_refl _⟩
theorem Bld.same {H0 H : GHeap} {b : Nat} {l : List UInt8} (h : Bld H0 H b l) : Same H0 H := by
  obtain ⟨_, _, _, _, h, _⟩ := h.ex; exact h.same
theorem Bld.later {H0 H H' : GHeap} {b : Nat} {l : List UInt8} (h : Bld H0 H b l) (hs : Same H H') : Bld H0 H' b l := by
  obtain ⟨p, s, h1, h2, h3, h4⟩ := h.ex
  exact ⟨⟨p, s, by rw [hs.mine (mine_lt h3.same.wf h1)]; exact h1, h2, h3.later hs, h4⟩, h.young⟩
theorem OS.flat {s u n : Nat} {H0 H : GHeap} {v : Value} {xs : List Value} (h : OS s u H0 H v n xs) : flatV v = true := by
  rcases h.own.at_ with ⟨e, _⟩ | ⟨i, gc, e, _, hm⟩ <;> rw [e] <;> exact flatV_sl
theorem Bld.check {H0 H : GHeap} {b : Nat} {l : List UInt8} (h : Bld H0 H b l) :
    ∃ r H', gev G 66 [self b] H = some (r, H') ∧ (r = .tuple #[] ∧ ∃ s, H'.mine b = some ([self b, s], 258) ∧ OS 1 257 H0 H' s l.length (u8s l) ∧ (l = [] → s = .slice none 0 0)) := by
  obtain ⟨p, s, hm, hp, hO, hne⟩ := h.ex
  have hlt := mine_lt hO.same.wf hm
  refine ⟨.tuple #[], H.put b (.cells [self b, s] 258 true), gev_ext (run := runCC) rfl ?_, rfl, s, mine_put_same (mine_obj hm).1, ?_, hne⟩
  · rcases hp with rfl | rfl
    · simp only [self, runCC, hm]
    · simp only [self] at hm ⊢
      simp only [runCC, hm, if_true, self]
  · refine hO.but (S := fun j => j = b) ((But.refl (S := fun j => j = b) hO.same.wf).put rfl hlt _) (fun k hk e => ?_) fun a ha e => ?_
    · have := h.young; omega
    · have := (hO.ids ha).2.2
      rw [e, hm] at this
      simp at this
theorem string_ok {H0 H : GHeap} {b : Nat} {l : List UInt8} (h : Bld H0 H b l) (hn : l.length ≤ 140737488355328) :
    ∃ r H', gev G 63 [self b] H = some (r, H') ∧ (r = .string (strB l) ∧ Same H0 H') := by
  obtain ⟨p, s, hm, hp, hO, hne⟩ := h.ex
  have h0 := hO.same
  by_cases hl : l = []
  · subst hl
    refine ⟨.string .empty, H, gev_ext (run := runStr) rfl ?_, rfl, h0⟩
    rw [hne rfl] at hm
    simp only [self, runStr, hm]
  · have hpos : 0 < l.length := List.length_pos_iff.2 hl
    rcases hO.own.at_ with ⟨e, e2⟩ | ⟨i, gc, e, hg, hmi⟩
    · omega
    · obtain ⟨n, hnl⟩ : ∃ n, l.length = n + 1 := ⟨l.length - 1, by omega⟩
      have hid : i ∈ idOf s := by rw [e]; simp [idOf]
      have hy := hO.ids hid
      refine ⟨.string (strB l), H.put i (.cells (u8s l) 257 false), gev_ext (run := runStr) rfl ?_, rfl, h0.put hy.1 hy.2.1 _⟩
      rw [e, hnl] at hm
      have ht : (u8s l).take (n + 1) = u8s l := List.take_of_length_le (by rw [u8s_length]; omega)
      simp only [self, runStr, hm, hmi]
      rw [if_pos (by rw [u8s_length]; omega), ht, rdB_u8s]
      rfl
theorem GArg1.suf {H : GHeap} {v : Value} {n : Nat} {xs : List Value} (h : GArg1 H 1 v n xs) {k : IntKind} {a : Nat} (h2 : a ≤ n) :
    ∃ v', gslice (.sl 1) H v (some (.int k a)) none none = some v' ∧ GArg1 H 1 v' (n - a) (xs.drop a) := by
  obtain ⟨v', e1, e2, _⟩ := h.cut (k := k) (a := a) (b := n) (by omega) (by omega) (Int.le_refl _)
  refine ⟨v', ?_, ?_⟩
  · rw [gslice_hi h (k := k)]; exact e1
  · have hl := h.rd.1
    simp only [Int.toNat_natCast, Nat.mul_one] at e2 hl
    rwa [List.take_of_length_le (by rw [List.length_drop]; omega)] at e2
/-- anything that can be appended -/
theorem OS.appX {s u n m : Nat} {H0 H : GHeap} {v x : Value} {xs news : List Value} (h : OS s u H0 H v n xs) (hu : u ≠ 0) (hs : s ≠ 0) (hct : gcount x = some m) (hg : gcells s m H x = some news) (hlen : news.length = m * s) {b : Nat} (hb : (n + m) * b ≤ 140737488355328) (hk : n + m < 140737488355329) :
    ∃ v' H', gapp s b u H v x = some (v', H') ∧ OS s u H0 H' v' (n + m) (xs ++ news) ∧ But (fun j => j ∈ idOf v) H H' ∧ (m = 0 → v' = v ∧ H' = H) := by
  have hw := h.same.wf
  by_cases hm : m = 0
  · subst hm
    have hnil : news = [] := List.eq_nil_of_length_eq_zero (by rw [hlen, Nat.zero_mul])
    subst hnil
    refine ⟨v, H, ?_, by simpa using h, But.refl hw, fun _ => ⟨rfl, rfl⟩⟩
    have : ∃ av gc, v = .slice av n gc := by
      rcases h.own.at_ with ⟨e, e2⟩ | ⟨i, gc, e, _⟩
      · exact ⟨none, 0, by rw [e, e2]⟩
      · exact ⟨_, _, e⟩
    obtain ⟨av, gc, rfl⟩ := this
    simp only [gapp, hct, Option.bind_some, hg]
    rfl
  obtain ⟨v', H', k1, k2, k3, k4, k5, k6, k7⟩ := gapp_own (bytes := b) (m := m) (x := x) (news := news) hw h.own hu hs hct hg hlen (by omega) hb (by omega)
  have key : ∀ j, j < H.len → ¬ j ∈ idOf v → H'.obj j = H.obj j := fun j hj hne => by
    refine k7 j hj ?_
    rcases h.own.at_ with ⟨e, _⟩ | ⟨i, gc, e, _⟩
    · exact .inr e
    · refine .inl fun e2 => hne ?_
      rw [e2, e]; simp [idOf, blk]
  refine ⟨v', H', k1, ⟨?_, k2, .inr (by rw [k6]; exact h.same.len)⟩, ⟨k4, by omega, key, k3⟩, fun h => absurd h hm⟩
  refine h.same.of_obj k3 k4 (by omega) fun j hj => ?_
  refine key j (Nat.lt_of_lt_of_le hj h.same.len) fun hv => ?_
  have := (h.ids hv).1
  omega
/-- a string's bytes, appended -/
theorem OS.appStr {n : Nat} {H0 H : GHeap} {v : Value} {xs : List Value} (h : OS 1 257 H0 H v n xs) (t : List UInt8) (hb : n + t.length ≤ 140737488355328) :
    ∃ v' H', gapp 1 1 257 H v (.string (strB t)) = some (v', H') ∧ OS 1 257 H0 H' v' (n + t.length) (xs ++ u8s t) ∧ But (fun j => j ∈ idOf v) H H' ∧ (t.length = 0 → v' = v ∧ H' = H) := by
  refine h.appX (by decide) (by decide) (m := t.length) ?_ ?_ (by rw [u8s_length]; omega) (b := 1) (by omega) (by omega)
  · simp only [gcount, strB_size]
  · simp only [gcells, strB_data, List.take_length]; rfl
theorem writeS_ok {H0 H : GHeap} {b : Nat} {l : List UInt8} (h : Bld H0 H b l) (t : List UInt8) (hn : l.length + t.length ≤ 140737488355328) :
    ∃ r H', gev G 62 [self b, .string (strB t)] H = some (r, H') ∧ Bld H0 H' b (l ++ t) := by
  refine gev_GW (f := 62) rfl fun Post hPost => ?_
  simp only [frameOf, Nat.reduceAdd]
  repeat' (first | refine zn ?_ | refine zK rfl ?_ | refine zP rfl ?_ | ((first | refine zm ?_ | skip); intro _; intros; simp (disch := first | exact zd | fail) only [↓yS, yT, gresults, gone, ↓reduceIte, Nat.reduceEqDiff, Nat.reduceAdd, Nat.reduceMul, reduceCtorEq, Int.reduceToNat, g62]; first | (rename_i K k; (first | refine yC (k _ _ ?_) | refine zg (k _ ?_)); clear k K) | (rename_i A B C D a b c d; (first | refine zx (a ?_) | refine zy (b ?_) | refine zz (fun hc => c ?_) (fun hc => d ?_) | refine zv (b ?_) | refine zw (a ?_)) <;> clear a b c d A B C D <;> try simp only [yL] at hc)) | refine zA ?_ | refine zB ?_ | refine zF ?_)
  refine Gw_s fun K' hK' => G1_call (by simp only [gtarget, ↓GArg.ev, ↓evs, ↓Tr.get_set, Nat.reduceEqDiff, if_true, if_false, ↓reduceIte, Option.map_some]; rfl) (h.check) fun r1 H1 hq => hK' _ _ ?_
  obtain ⟨rfl, s, hm, hO, hne⟩ := hq
  have hr1 : H1.rd b 1 = some s := mine_rd hm
  have hs : self b = .pointer (some ⟨b, 0, none⟩) := rfl
  repeat' (first | refine zn ?_ | refine zK rfl ?_ | refine zP rfl ?_ | ((first | refine zm ?_ | skip); intro _; intros; simp (disch := first | exact zd | fail) only [↓yS, yT, gresults, gone, ↓reduceIte, Nat.reduceEqDiff, Nat.reduceAdd, Nat.reduceMul, reduceCtorEq, Int.reduceToNat, g62, hs, hr1]; first | (rename_i K k; (first | refine yC (k _ _ ?_) | refine zg (k _ ?_)); clear k K) | (rename_i A B C D a b c d; (first | refine zx (a ?_) | refine zy (b ?_) | refine zz (fun hc => c ?_) (fun hc => d ?_) | refine zv (b ?_) | refine zw (a ?_)) <;> clear a b c d A B C D <;> try simp only [yL] at hc)) | refine zA ?_ | refine zB ?_ | refine zF ?_)
  refine Gw_s fun K' hK' => ?_
  simp (disch := first | exact zd | fail) only [↓yS, yT, ↓reduceIte, Nat.reduceEqDiff, Nat.reduceAdd, Nat.reduceMul, reduceCtorEq, Int.reduceToNat, hs, hr1]
  obtain ⟨r2, H2, e, hO2, hB, h0⟩ := hO.appStr t hn
  refine G1_eq e (hK' _ _ ?_)
  clear hK' K' e
  have hlt := mine_lt hO.same.wf hm
  have hnot : ¬ b ∈ idOf s := fun ha => by
    have := (hO.ids ha).2.2
    rw [hm] at this
    simp at this
  have hm2 : H2.mine b = some ([self b, s], 258) := by rw [hB.mine hlt hnot]; exact hm
  have hf := hO2.flat
  have hlt2 := mine_lt hO2.same.wf hm2
  have hO3 : OS 1 257 H0 (H2.put b (.cells [self b, r2] 258 true)) r2 (l.length + t.length) (u8s l ++ u8s t) :=
    hO2.but (S := fun j => j = b) ((But.refl (S := fun j => j = b) hO2.same.wf).put rfl hlt2 _) (fun k hk e => by have := h.young; omega) fun a ha e => by
      have := (hO2.ids ha).2.2
      rw [e, hm2] at this
      simp at this
  have hm3 : (H2.put b (.cells [self b, r2] 258 true)).mine b = some ([self b, r2], 258) := mine_put_same (mine_obj hm2).1
  have hst : gst none H2 (.pointer (some ⟨b, 1, none⟩)) r2 = some (H2.put b (.cells [self b, r2] 258 true)) := by
    rw [gst_1, hm2, Option.bind_some, gset_ok (by simp) hf]; rfl
  generalize H2.put b (.cells [self b, r2] 258 true) = H3 at *
  repeat' (first | refine zn ?_ | refine zK rfl ?_ | refine zP rfl ?_ | ((first | refine zm ?_ | skip); intro _; intros; simp (disch := first | exact zd | fail) only [↓yS, yT, gresults, gone, ↓reduceIte, Nat.reduceEqDiff, Nat.reduceAdd, Nat.reduceMul, reduceCtorEq, Int.reduceToNat, g62, hs, hst]; first | (rename_i K k; (first | refine yC (k _ _ ?_) | refine zg (k _ ?_)); clear k K) | (rename_i A B C D a b c d; (first | refine zx (a ?_) | refine zy (b ?_) | refine zz (fun hc => c ?_) (fun hc => d ?_) | refine zv (b ?_) | refine zw (a ?_)) <;> clear a b c d A B C D <;> try simp only [yL] at hc)) | refine zA ?_ | refine zB ?_ | refine zF ?_)
  refine hPost _ _ ⟨⟨_, _, hm3, .inr rfl, ?_, fun e => ?_⟩, h.young⟩
  · rw [u8s_append, List.length_append]; exact hO3
  · rw [List.append_eq_nil_iff] at e
    rw [(h0 (by rw [e.2]; rfl)).1]
    exact hne e.1
end Go.Gh
