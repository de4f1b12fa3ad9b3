/-
  As in charset's texts: runes, the bytes of characters, the string of characters.
-/
import Derived.Test.YtjjcgaompnjbdaaDoorSyC1
namespace Go.Gh
set_option linter.unusedSimpArgs false
set_option linter.unusedVariables false
set_option maxHeartbeats 4000000
open Go.RowKit
set_option maxRecDepth 4000

def RL (l : List Nat) : List Value := l.map fun (x : Nat) => Value.int .i32 (x : Int)
theorem RL_len (l : List Nat) : (RL l).length = l.length := by simp [RL]
theorem RL_snoc (l : List Nat) (x : Nat) : RL (l ++ [x]) = RL l ++ [.int .i32 (x : Int)] := by simp [RL]
theorem RL_at {l : List Nat} {j : Nat} (h : j < l.length) : (RL l)[j]? = some (.int .i32 (l[j]! : Nat)) := by
  rw [RL, List.getElem?_map, gget h]; rfl
theorem ItAt.ne {H : GHeap} {v : Value} {l : List Nat} {a : Nat} {c : List Value × Nat} (h : ItAt H v l) (hm : H.mine a = some c) : itId v ≠ a := by
  obtain ⟨i, s, pos, rfl, h1, h2, h3⟩ := h.ex
  rintro rfl
  have h4 : H.obj i = _ := (mine_obj hm).2
  rw [h4] at h2
  cases h2
theorem OS.ids {s u n : Nat} {H0 H : GHeap} {v : Value} {xs : List Value} (h : OS s u H0 H v n xs) {a : Nat} (ha : a ∈ idOf v) : H0.len ≤ a ∧ a < H.len ∧ H.mine a = some (xs, u) := by
  rcases h.own.at_ with ⟨e, _⟩ | ⟨i, gc, e, _, hm⟩
  · rw [e] at ha; simp [idOf] at ha
  · have hlt := mine_lt h.same.wf hm
    rw [e] at ha
    simp only [idOf, List.mem_singleton] at ha
    subst ha
    refine ⟨?_, hlt, hm⟩
    rcases h.young with e2 | e2
    · rw [e] at e2; cases e2
    · rw [e] at e2; exact e2
theorem fill1r {n : Int} : fillL (ints .i32 (List.replicate 1 0)) [(0, 1, .int .i32 n)] = some [.int .i32 n] := rfl
/-- several elements, appended -/
theorem OS.appN {s u n m : Nat} {H0 H : GHeap} {v x : Value} {xs news : List Value} (h : OS s u H0 H v n xs) (hu : u ≠ 0) (hs : s ≠ 0) (hx : GArg1 H s x m news) {b : Nat} (hb : (n + m) * b ≤ 140737488355328) (hk : n + m < 140737488355328) :
    ∃ v' H', gapp s b u H v x = some (v', H') ∧ OS s u H0 H' v' (n + m) (xs ++ news) ∧ But (fun j => j ∈ idOf v) H H' := by
  have hw := h.same.wf
  have hg := gcells_arg hx
  have hlen := hx.rd.1
  have hct : gcount x = some m := by obtain ⟨a, gc, rfl, _⟩ := hx.sl; rfl
  by_cases hm : m = 0
  · subst hm
    have hnil : news = [] := List.eq_nil_of_length_eq_zero (by rw [hlen, Nat.zero_mul])
    subst hnil
    refine ⟨v, H, ?_, by simpa using h, But.refl hw⟩
    have : ∃ av gc, v = .slice av n gc := by
      rcases h.own.at_ with ⟨e, e2⟩ | ⟨i, gc, e, _⟩
      · exact ⟨none, 0, by rw [e, e2]⟩
      · exact ⟨_, _, e⟩
    obtain ⟨av, gc, rfl⟩ := this
    simp only [gapp, hct, Option.bind_some, hg]
    rfl
  obtain ⟨v', H', k1, k2, k3, k4, k5, k6, k7⟩ := gapp_own (bytes := b) (m := m) (x := x) (news := news) hw h.own hu hs hct hg hlen (by omega) hb (by omega)
  have key : ∀ j, j < H.len → ¬ j ∈ idOf v → H'.obj j = H.obj j := fun j hj hne => by
    refine k7 j hj ?_
    rcases h.own.at_ with ⟨e, _⟩ | ⟨i, gc, e, _⟩
    · exact .inr e
    · refine .inl fun e2 => hne ?_
      rw [e2, e]; simp [idOf, blk]
  refine ⟨v', H', k1, ⟨?_, k2, .inr (by rw [k6]; exact h.same.len)⟩, ⟨k4, by omega, key, k3⟩⟩
  refine h.same.of_obj k3 k4 (by omega) fun j hj => ?_
  refine key j (Nat.lt_of_lt_of_le hj h.same.len) fun hv => ?_
  have := (h.ids hv).1
  omega
theorem OS.arg {n : Nat} {H0 H : GHeap} {v : Value} {xs : List Value} (h : OS 1 257 H0 H v n xs) : GArg1 H 1 v n xs := OwnG.arg h.same.wf h.own (.inr rfl)
/-- bytes in a new object, appended -/
theorem OS.appB {n : Nat} {H0 H : GHeap} {v : Value} {xs : List Value} (h : OS 1 257 H0 H v n xs) (l : List UInt8) (hb : n + l.length < 140737488355328) :
    ∃ v' H', gapp 1 1 257 (H.add (some (.cells (u8s l) 257 true))) v (.slice (some ⟨H.len, 0, none⟩) l.length (l.length + 1)) = some (v', H') ∧ OS 1 257 H0 H' v' (n + l.length) (xs ++ u8s l) ∧ But (fun j => j ∈ idOf v) H H' := by
  have hw := h.same.wf
  obtain ⟨v', H', e, h1, h2⟩ := (h.later ((Same.refl hw).add (.cells (u8s l) 257 true))).appN (by decide) (by decide) (OB.made (l := l) (Same.refl hw) rfl (l.length + 1) (.inr rfl)).rb (b := 1) (by omega) (by omega)
  exact ⟨v', H', e, h1, (But.of ((Same.refl hw).add _)).trans h2⟩
def toL (b : ByteArray) : List UInt8 := b.data.toList
def encL (x : Nat) : List UInt8 := toL (Utf8.encode (x : Int))
theorem encL_toL (x : Nat) : encL x = toL (Utf8.encode (x : Int)) := rfl
def enc2 (x : Nat) : List UInt8 := [192 ||| UInt8.ofNat (x / 64), 128 ||| (UInt8.ofNat x &&& 63)]
def enc3 (x : Nat) : List UInt8 := [224 ||| UInt8.ofNat (x / 4096), 128 ||| (UInt8.ofNat (x / 64) &&& 63), 128 ||| (UInt8.ofNat x &&& 63)]
set_option maxRecDepth 100000 in
theorem enc_table : (REP.all fun x => encL x == (if x ≤ 127 then [UInt8.ofNat x] else if x ≤ 2047 then enc2 x else enc3 x)) = true := by kernel_rfl
theorem encL_eq {x : Nat} (hx : x ∈ REP) : encL x = if x ≤ 127 then [UInt8.ofNat x] else if x ≤ 2047 then enc2 x else enc3 x := by
  have := List.all_eq_true.1 enc_table x hx
  simpa using this
theorem encL_len {x : Nat} (hx : x ∈ REP) : (encL x).length ≤ 3 ∧ 1 ≤ (encL x).length := by
  rw [encL_eq hx]
  split
  · simp
  · split <;> simp [enc2, enc3]
theorem gb_or8 {e : Option EqK} {a b : UInt8} : gbin .or e (.int .u8 (a.toNat : Int)) (.int .u8 (b.toNat : Int)) = some (.int .u8 ((a ||| b).toNat : Int)) := by
  have : ∀ a b : UInt8, IntKind.u8.wrap ((BitVec.ofInt 8 (a.toNat : Int) ||| BitVec.ofInt 8 (b.toNat : Int)).toNat : Int) = ((a ||| b).toNat : Int) := by
    intro a b
    rw [bv_nat, bv_nat, BitVec.toNat_or, BitVec.toNat_ofNat, BitVec.toNat_ofNat, Nat.mod_eq_of_lt a.toNat_lt, Nat.mod_eq_of_lt b.toNat_lt, UInt8.toNat_or]
    have : a.toNat ||| b.toNat < 256 := Nat.or_lt_two_pow (n := 8) a.toNat_lt b.toNat_lt
    exact wr_u8 (by omega)
  simp only [gbin, gint, if_true]
  exact congrArg (fun n => some (Value.int .u8 n)) (this a b)
theorem gb_and8 {e : Option EqK} {a b : UInt8} : gbin .and e (.int .u8 (a.toNat : Int)) (.int .u8 (b.toNat : Int)) = some (.int .u8 ((a &&& b).toNat : Int)) := by
  have : ∀ a b : UInt8, IntKind.u8.wrap ((BitVec.ofInt 8 (a.toNat : Int) &&& BitVec.ofInt 8 (b.toNat : Int)).toNat : Int) = ((a &&& b).toNat : Int) := by
    intro a b
    rw [bv_nat, bv_nat, BitVec.toNat_and, BitVec.toNat_ofNat, BitVec.toNat_ofNat, Nat.mod_eq_of_lt a.toNat_lt, Nat.mod_eq_of_lt b.toNat_lt, UInt8.toNat_and]
    have : a.toNat &&& b.toNat < 256 := Nat.lt_of_le_of_lt Nat.and_le_left a.toNat_lt
    exact wr_u8 (by omega)
  simp only [gbin, gint, if_true]
  exact congrArg (fun n => some (Value.int .u8 n)) (this a b)
theorem or192 {e : Option EqK} {b : UInt8} : gbin .or e (.int .u8 192) (.int .u8 (b.toNat : Int)) = some (.int .u8 ((192 ||| b).toNat : Int)) := gb_or8 (a := 192)
theorem or128 {e : Option EqK} {b : UInt8} : gbin .or e (.int .u8 128) (.int .u8 (b.toNat : Int)) = some (.int .u8 ((128 ||| b).toNat : Int)) := gb_or8 (a := 128)
theorem or224 {e : Option EqK} {b : UInt8} : gbin .or e (.int .u8 224) (.int .u8 (b.toNat : Int)) = some (.int .u8 ((224 ||| b).toNat : Int)) := gb_or8 (a := 224)
theorem and63 {e : Option EqK} {b : UInt8} : gbin .and e (.int .u8 (b.toNat : Int)) (.int .u8 63) = some (.int .u8 ((b &&& 63).toNat : Int)) := gb_and8 (b := 63)
theorem u8n {b : Nat} (h : b < 256) : (b : Int) = ((UInt8.ofNat b).toNat : Int) := by rw [UInt8.toNat_ofNat', Nat.mod_eq_of_lt h]
theorem or192n {e : Option EqK} {b : Nat} (h : b < 256) : gbin .or e (.int .u8 192) (.int .u8 (b : Int)) = some (.int .u8 ((192 ||| UInt8.ofNat b).toNat : Int)) := by rw [u8n h]; exact or192
theorem or224n {e : Option EqK} {b : Nat} (h : b < 256) : gbin .or e (.int .u8 224) (.int .u8 (b : Int)) = some (.int .u8 ((224 ||| UInt8.ofNat b).toNat : Int)) := by rw [u8n h]; exact or224
theorem and63n {e : Option EqK} {b : Nat} (h : b < 256) : gbin .and e (.int .u8 (b : Int)) (.int .u8 63) = some (.int .u8 ((UInt8.ofNat b &&& 63).toNat : Int)) := by rw [u8n h]; exact and63
theorem sh6 {e : Option EqK} {k' : IntKind} {s : Nat} : gbin .shr e (.int .i32 (s : Int)) (.int k' 6) = some (.int .i32 ((s / 64 : Nat) : Int)) := gb_shr (s := 6) (by decide)
theorem sh12 {e : Option EqK} {k' : IntKind} {s : Nat} : gbin .shr e (.int .i32 (s : Int)) (.int k' 12) = some (.int .i32 ((s / 4096 : Nat) : Int)) := gb_shr (s := 12) (by decide)
theorem fillb1 {a : Int} : fillL (ints .u8 (List.replicate 1 0)) [(0, 1, .int .u8 a)] = some [.int .u8 a] := rfl
theorem fillb2 {a b : Int} : fillL (ints .u8 (List.replicate 2 0)) [(0, 1, .int .u8 a), (1, 1, .int .u8 b)] = some [.int .u8 a, .int .u8 b] := rfl
theorem fillb3 {a b c : Int} : fillL (ints .u8 (List.replicate 3 0)) [(0, 1, .int .u8 a), (1, 1, .int .u8 b), (2, 1, .int .u8 c)] = some [.int .u8 a, .int .u8 b, .int .u8 c] := rfl
theorem rep_le {x : Nat} (hx : x ∈ REP) : 32 ≤ x ∧ x ≤ 9834 := by
  have := List.all_eq_true.1 rep_range x hx
  simpa using this
/-- the string of characters, "" if one is not in the repertoire -/
def ofB (l : List Int) : List UInt8 := if (l.all fun r => decide (0 ≤ idxN r)) = true then l.flatMap fun r => encL r.toNat else []
def encs' (l : List Int) : List UInt8 := l.flatMap fun r => encL r.toNat
theorem ofB_bad {l : List Int} {r : Int} (hr : r ∈ l) (h : idxN r < 0) : ofB l = [] := by
  unfold ofB
  rw [if_neg]
  intro hh
  have := List.all_eq_true.1 hh r hr
  simp only [decide_eq_true_eq] at this
  omega
theorem ofB_all {l : List Int} (h : ∀ r ∈ l, 0 ≤ idxN r) : ofB l = encs' l := by
  unfold ofB
  rw [if_pos (List.all_eq_true.2 fun r hr => decide_eq_true (h r hr))]; rfl
theorem encs'_take {l : List Int} {j : Nat} (h : j < l.length) : encs' (l.take (j + 1)) = encs' (l.take j) ++ encL (l[j]!).toNat := by
  rw [encs', List.take_succ_eq_append_getElem h, List.flatMap_append, getElem!_pos l j h]
  simp [encs']
theorem encs'_le {l : List Int} (h : ∀ r ∈ l, 0 ≤ idxN r) : (encs' l).length ≤ 3 * l.length := by
  induction l with
  | nil => simp [encs']
  | cons r l ih =>
    have h1 := ih fun x hx => h x (by simp [hx])
    obtain ⟨x, hx, hxr⟩ := idx_mem (r := r) (by have := h r (by simp); omega)
    have h2 := (encL_len hx).1
    have h3 : r.toNat = x := by omega
    simp only [encs', List.flatMap_cons, List.length_append, List.length_cons, h3] at h1 ⊢
    omega
theorem wf_i32' {n : Int} (h : (Lit.int .i32 n).wf = true) : -2147483648 ≤ n ∧ n ≤ 2147483647 := by
  simpa [Lit.wf, IntKind.min, IntKind.max, IntKind.signed, IntKind.bits] using h
theorem i32s {l : List Int} (h : ∀ n ∈ l, (Lit.int .i32 n).wf = true) : ∀ n ∈ l, -2147483648 ≤ n ∧ n ≤ 2147483647 := fun n hn => wf_i32' (h n hn)
theorem gcv_str {H : GHeap} {k : IntKind} {n : Int} : gconv .strOfInt H (.int k n) = some (.string (Utf8.encode n), none) := rfl
theorem strB_app (a : List UInt8) (e : ByteArray) : strB a ++ e = strB (a ++ toL e) := by
  apply ByteArray.ext
  rw [ByteArray.data_append]
  apply Array.ext'
  simp [strB, toL]
theorem size_list (e : ByteArray) : e.size = (toL e).length := rfl
theorem gb_addS {k : Option EqK} {a : List UInt8} {e : ByteArray} (h : a.length + (toL e).length ≤ 9223372036854775807) : gbin .add k (.string (strB a)) (.string e) = some (.string (strB (a ++ toL e))) := by
  simp only [gbin, gstr]
  rw [strB_size, size_list, if_pos h, strB_app]
theorem gb_addE {e : Option EqK} {a : List UInt8} {x : Nat} (h : a.length + (encL x).length ≤ 9223372036854775807) : gbin .add e (.string (strB a)) (.string (Utf8.encode (x : Int))) = some (.string (strB (a ++ encL x))) := by
  rw [encL_toL] at h ⊢
  exact gb_addS h
end Go.Gh
