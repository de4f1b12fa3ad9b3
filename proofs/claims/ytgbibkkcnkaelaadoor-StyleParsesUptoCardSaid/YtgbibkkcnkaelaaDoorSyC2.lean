/-
  As in charset's texts: runes, the bytes of characters, the string of characters.
-/
import Derived.Test.YtgbibkkcnkaelaaDoorSyC1
namespace Go.Gh
set_option linter.unusedSimpArgs false
set_option linter.unusedVariables false
open Go.RowKit
set_option maxRecDepth 4000

theorem OS.ids {s u n : Nat} {H0 H : GHeap} {v : Value} {xs : List Value} (h : OS s u H0 H v n xs) {a : Nat} (ha : a ∈ idOf v) : H0.len ≤ a ∧ a < H.len ∧ H.mine a = some (xs, u) := by
  rcases h.own.at_ with ⟨e, _⟩ | ⟨i, gc, e, _, hm⟩
  · rw [e] at ha; simp [idOf] at ha
  · have hlt := mine_lt h.same.wf hm
    rw [e] at ha
    simp only [idOf, List.mem_singleton] at ha
    subst ha
    refine ⟨?_, hlt, hm⟩
    rcases h.young with e2 | e2
    · rw [e] at e2; cases e2
    · rw [e] at e2; exact e2
/-- several elements, appended -/
theorem OS.appN {s u n m : Nat} {H0 H : GHeap} {v x : Value} {xs news : List Value} (h : OS s u H0 H v n xs) (hu : u ≠ 0) (hs : s ≠ 0) (hx : GArg1 H s x m news) {b : Nat} (hb : (n + m) * b ≤ 140737488355328) (hk : n + m < 140737488355328) :
    ∃ v' H', gapp s b u H v x = some (v', H') ∧ OS s u H0 H' v' (n + m) (xs ++ news) ∧ But (fun j => j ∈ idOf v) H H' := by
  have hw := h.same.wf
  have hg := gcells_arg hx
  have hlen := hx.rd.1
  have hct : gcount x = some m := by obtain ⟨a, gc, rfl, _⟩ := hx.sl; rfl
  by_cases hm : m = 0
  · subst hm
    have hnil : news = [] := List.eq_nil_of_length_eq_zero (by rw [hlen, Nat.zero_mul])
    subst hnil
    refine ⟨v, H, ?_, by simpa using h, But.refl hw⟩
    have : ∃ av gc, v = .slice av n gc := by
      rcases h.own.at_ with ⟨e, e2⟩ | ⟨i, gc, e, _⟩
      · exact ⟨none, 0, by rw [e, e2]⟩
      · exact ⟨_, _, e⟩
    obtain ⟨av, gc, rfl⟩ := this
    simp only [gapp, hct, Option.bind_some, hg]
    rfl
  obtain ⟨v', H', k1, k2, k3, k4, k5, k6, k7⟩ := gapp_own (bytes := b) (m := m) (x := x) (news := news) hw h.own hu hs hct hg hlen (by omega) hb (by omega)
  have key : ∀ j, j < H.len → ¬ j ∈ idOf v → H'.obj j = H.obj j := fun j hj hne => by
    refine k7 j hj ?_
    rcases h.own.at_ with ⟨e, _⟩ | ⟨i, gc, e, _⟩
    · exact .inr e
    · refine .inl fun e2 => hne ?_
      rw [e2, e]; simp [idOf, blk]
  refine ⟨v', H', k1, ⟨?_, k2, .inr (by rw [k6]; exact h.same.len)⟩, ⟨k4, by omega, key, k3⟩⟩
  refine h.same.of_obj k3 k4 (by omega) fun j hj => ?_
  refine key j (Nat.lt_of_lt_of_le hj h.same.len) fun hv => ?_
  have := (h.ids hv).1
  omega
theorem OS.arg {n : Nat} {H0 H : GHeap} {v : Value} {xs : List Value} (h : OS 1 257 H0 H v n xs) : GArg1 H 1 v n xs := OwnG.arg h.same.wf h.own (.inr rfl)
/-- bytes in a new object, appended -/
theorem OS.appB {n : Nat} {H0 H : GHeap} {v : Value} {xs : List Value} (h : OS 1 257 H0 H v n xs) (l : List UInt8) (hb : n + l.length < 140737488355328) :
    ∃ v' H', gapp 1 1 257 (H.add (some (.cells (u8s l) 257 true))) v (.slice (some ⟨H.len, 0, none⟩) l.length (l.length + 1)) = some (v', H') ∧ OS 1 257 H0 H' v' (n + l.length) (xs ++ u8s l) ∧ But (fun j => j ∈ idOf v) H H' := by
  have hw := h.same.wf
  obtain ⟨v', H', e, h1, h2⟩ := (h.later ((Same.refl hw).add (.cells (u8s l) 257 true))).appN (by decide) (by decide) (OB.made (l := l) (Same.refl hw) rfl (l.length + 1) (.inr rfl)).rb (b := 1) (by omega) (by omega)
  exact ⟨v', H', e, h1, (But.of ((Same.refl hw).add _)).trans h2⟩
def toL (b : ByteArray) : List UInt8 := b.data.toList
def encL (x : Nat) : List UInt8 := toL (Utf8.encode (x : Int))
theorem encL_toL (x : Nat) : encL x = toL (Utf8.encode (x : Int)) := rfl
def enc2 (x : Nat) : List UInt8 := [192 ||| UInt8.ofNat (x / 64), 128 ||| (UInt8.ofNat x &&& 63)]
def enc3 (x : Nat) : List UInt8 := [224 ||| UInt8.ofNat (x / 4096), 128 ||| (UInt8.ofNat (x / 64) &&& 63), 128 ||| (UInt8.ofNat x &&& 63)]
set_option maxRecDepth 100000 in
theorem enc_table : (REP.all fun x => encL x == (if x ≤ 127 then [UInt8.ofNat x] else if x ≤ 2047 then enc2 x else enc3 x)) = true := by kernel_rfl
theorem encL_eq {x : Nat} (hx : x ∈ REP) : encL x = if x ≤ 127 then [UInt8.ofNat x] else if x ≤ 2047 then enc2 x else enc3 x := by
  have := List.all_eq_true.1 enc_table x hx
  simpa using this
theorem encL_len {x : Nat} (hx : x ∈ REP) : (encL x).length ≤ 3 ∧ 1 ≤ (encL x).length := by
  rw [encL_eq hx]
  split
  · simp
  · split <;> simp [enc2, enc3]
theorem gcv_str {H : GHeap} {k : IntKind} {n : Int} : gconv .strOfInt H (.int k n) = some (.string (Utf8.encode n), none) := rfl
theorem strB_app (a : List UInt8) (e : ByteArray) : strB a ++ e = strB (a ++ toL e) := by
  apply ByteArray.ext
  rw [ByteArray.data_append]
  apply Array.ext'
  simp [strB, toL]
theorem size_list (e : ByteArray) : e.size = (toL e).length := rfl
theorem gb_addS {k : Option EqK} {a : List UInt8} {e : ByteArray} (h : a.length + (toL e).length ≤ 9223372036854775807) : gbin .add k (.string (strB a)) (.string e) = some (.string (strB (a ++ toL e))) := by
  simp only [gbin, gstr]
  rw [strB_size, size_list, if_pos h, strB_app]
theorem gb_addE {e : Option EqK} {a : List UInt8} {x : Nat} (h : a.length + (encL x).length ≤ 9223372036854775807) : gbin .add e (.string (strB a)) (.string (Utf8.encode (x : Int))) = some (.string (strB (a ++ encL x))) := by
  rw [encL_toL] at h ⊢
  exact gb_addS h
end Go.Gh
