/-
  charset, walked (as in charset's texts): strings of characters.
-/
import Derived.Test.YtfldcmeecpgpeaaGreatDoorGlC1
namespace Go.Gh
set_option linter.unusedSimpArgs false
set_option linter.unusedVariables false
set_option maxHeartbeats 4000000
open Go.RowKit Go.Lib
set_option maxRecDepth 4000
set_option maxRecDepth 4000
theorem OS.appN {s u n m : Nat} {H0 H : GHeap} {v x : Value} {xs news : List Value} (h : OS s u H0 H v n xs) (hu : u ≠ 0) (hs : s ≠ 0) (hx : GArg1 H s x m news) {b : Nat} (hb : (n + m) * b ≤ 140737488355328) (hk : n + m < 140737488355328) :
    ∃ v' H', gapp s b u H v x = some (v', H') ∧ OS s u H0 H' v' (n + m) (xs ++ news) ∧ But (fun j => j ∈ idOf v) H H' := by
  have hw := h.same.wf
  have hg := gcells_arg hx
  have hlen := hx.rd.1
  have hct : gcount x = some m := by obtain ⟨a, gc, rfl, _⟩ := hx.sl; rfl
  by_cases hm : m = 0
  · subst hm
    have hnil : news = [] := List.eq_nil_of_length_eq_zero (by rw [hlen, Nat.zero_mul])
    subst hnil
    refine ⟨v, H, ?_, by simpa using h, But.refl hw⟩
    have : ∃ av gc, v = .slice av n gc := by
      rcases h.own.at_ with ⟨e, e2⟩ | ⟨i, gc, e, _⟩
      · exact ⟨none, 0, by rw [e, e2]⟩
      · exact ⟨_, _, e⟩
    obtain ⟨av, gc, rfl⟩ := this
    simp only [gapp, hct, Option.bind_some, hg]
    rfl
  obtain ⟨v', H', k1, k2, k3, k4, k5, k6, k7⟩ := gapp_own (bytes := b) (m := m) (x := x) (news := news) hw h.own hu hs hct hg hlen (by omega) hb (by omega)
  have key : ∀ j, j < H.len → ¬ j ∈ idOf v → H'.obj j = H.obj j := fun j hj hne => by
    refine k7 j hj ?_
    rcases h.own.at_ with ⟨e, _⟩ | ⟨i, gc, e, _⟩
    · exact .inr e
    · refine .inl fun e2 => hne ?_
      rw [e2, e]; simp [idOf, blk]
  refine ⟨v', H', k1, ⟨?_, k2, .inr (by rw [k6]; exact h.same.len)⟩, ⟨k4, by omega, key, k3⟩⟩
  refine h.same.of_obj k3 k4 (by omega) fun j hj => ?_
  refine key j (Nat.lt_of_lt_of_le hj h.same.len) fun hv => ?_
  have := (h.ids hv).1
  omega
theorem OS.appB {n : Nat} {H0 H : GHeap} {v : Value} {xs : List Value} (h : OS 1 257 H0 H v n xs) (l : List UInt8) (hb : n + l.length < 140737488355328) :
    ∃ v' H', gapp 1 1 257 (H.add (some (.cells (u8s l) 257 true))) v (.slice (some ⟨H.len, 0, none⟩) l.length (l.length + 1)) = some (v', H') ∧ OS 1 257 H0 H' v' (n + l.length) (xs ++ u8s l) ∧ But (fun j => j ∈ idOf v) H H' := by
  have hw := h.same.wf
  obtain ⟨v', H', e, h1, h2⟩ := (h.later ((Same.refl hw).add (.cells (u8s l) 257 true))).appN (by decide) (by decide) (OB.made (l := l) (Same.refl hw) rfl (l.length + 1) (.inr rfl)).rb (b := 1) (by omega) (by omega)
  exact ⟨v', H', e, h1, (But.of ((Same.refl hw).add _)).trans h2⟩
def toL (b : ByteArray) : List UInt8 := b.data.toList
def encL (x : Nat) : List UInt8 := toL (Utf8.encode (x : Int))
theorem encL_toL (x : Nat) : encL x = toL (Utf8.encode (x : Int)) := rfl
def enc2 (x : Nat) : List UInt8 := [192 ||| UInt8.ofNat (x / 64), 128 ||| (UInt8.ofNat x &&& 63)]
def enc3 (x : Nat) : List UInt8 := [224 ||| UInt8.ofNat (x / 4096), 128 ||| (UInt8.ofNat (x / 64) &&& 63), 128 ||| (UInt8.ofNat x &&& 63)]
set_option maxRecDepth 100000 in
theorem enc_table : (REP.all fun x => encL x == (if x ≤ 127 then [UInt8.ofNat x] else if x ≤ 2047 then enc2 x else enc3 x)) = true := by kernel_rfl
theorem encL_eq {x : Nat} (hx : x ∈ REP) : encL x = if x ≤ 127 then [UInt8.ofNat x] else if x ≤ 2047 then enc2 x else enc3 x := by
  have := List.all_eq_true.1 enc_table x hx
  simpa using this
theorem encL_len {x : Nat} (hx : x ∈ REP) : (encL x).length ≤ 3 ∧ 1 ≤ (encL x).length := by
  rw [encL_eq hx]
  split
  · simp
  · split <;> simp [enc2, enc3]
theorem gb_or8 {e : Option EqK} {a b : UInt8} : gbin .or e (.int .u8 (a.toNat : Int)) (.int .u8 (b.toNat : Int)) = some (.int .u8 ((a ||| b).toNat : Int)) := by
  have : ∀ a b : UInt8, IntKind.u8.wrap ((BitVec.ofInt 8 (a.toNat : Int) ||| BitVec.ofInt 8 (b.toNat : Int)).toNat : Int) = ((a ||| b).toNat : Int) := by
    intro a b
    rw [bv_nat, bv_nat, BitVec.toNat_or, BitVec.toNat_ofNat, BitVec.toNat_ofNat, Nat.mod_eq_of_lt a.toNat_lt, Nat.mod_eq_of_lt b.toNat_lt, UInt8.toNat_or]
    have : a.toNat ||| b.toNat < 256 := Nat.or_lt_two_pow (n := 8) a.toNat_lt b.toNat_lt
    exact wr_u8 (by omega)
  simp only [gbin, gint, if_true]
  exact congrArg (fun n => some (Value.int .u8 n)) (this a b)
theorem gb_and8 {e : Option EqK} {a b : UInt8} : gbin .and e (.int .u8 (a.toNat : Int)) (.int .u8 (b.toNat : Int)) = some (.int .u8 ((a &&& b).toNat : Int)) := by
  have : ∀ a b : UInt8, IntKind.u8.wrap ((BitVec.ofInt 8 (a.toNat : Int) &&& BitVec.ofInt 8 (b.toNat : Int)).toNat : Int) = ((a &&& b).toNat : Int) := by
    intro a b
    rw [bv_nat, bv_nat, BitVec.toNat_and, BitVec.toNat_ofNat, BitVec.toNat_ofNat, Nat.mod_eq_of_lt a.toNat_lt, Nat.mod_eq_of_lt b.toNat_lt, UInt8.toNat_and]
    have : a.toNat &&& b.toNat < 256 := Nat.lt_of_le_of_lt Nat.and_le_left a.toNat_lt
    exact wr_u8 (by omega)
  simp only [gbin, gint, if_true]
  exact congrArg (fun n => some (Value.int .u8 n)) (this a b)
theorem or192 {e : Option EqK} {b : UInt8} : gbin .or e (.int .u8 192) (.int .u8 (b.toNat : Int)) = some (.int .u8 ((192 ||| b).toNat : Int)) := gb_or8 (a := 192)
theorem or128 {e : Option EqK} {b : UInt8} : gbin .or e (.int .u8 128) (.int .u8 (b.toNat : Int)) = some (.int .u8 ((128 ||| b).toNat : Int)) := gb_or8 (a := 128)
theorem or224 {e : Option EqK} {b : UInt8} : gbin .or e (.int .u8 224) (.int .u8 (b.toNat : Int)) = some (.int .u8 ((224 ||| b).toNat : Int)) := gb_or8 (a := 224)
theorem and63 {e : Option EqK} {b : UInt8} : gbin .and e (.int .u8 (b.toNat : Int)) (.int .u8 63) = some (.int .u8 ((b &&& 63).toNat : Int)) := gb_and8 (b := 63)
theorem u8n {b : Nat} (h : b < 256) : (b : Int) = ((UInt8.ofNat b).toNat : Int) := by rw [UInt8.toNat_ofNat', Nat.mod_eq_of_lt h]
theorem or192n {e : Option EqK} {b : Nat} (h : b < 256) : gbin .or e (.int .u8 192) (.int .u8 (b : Int)) = some (.int .u8 ((192 ||| UInt8.ofNat b).toNat : Int)) := by rw [u8n h]; exact or192
theorem or224n {e : Option EqK} {b : Nat} (h : b < 256) : gbin .or e (.int .u8 224) (.int .u8 (b : Int)) = some (.int .u8 ((224 ||| UInt8.ofNat b).toNat : Int)) := by rw [u8n h]; exact or224
theorem and63n {e : Option EqK} {b : Nat} (h : b < 256) : gbin .and e (.int .u8 (b : Int)) (.int .u8 63) = some (.int .u8 ((UInt8.ofNat b &&& 63).toNat : Int)) := by rw [u8n h]; exact and63
theorem sh6 {e : Option EqK} {k' : IntKind} {s : Nat} : gbin .shr e (.int .i32 (s : Int)) (.int k' 6) = some (.int .i32 ((s / 64 : Nat) : Int)) := gb_shr (s := 6) (by decide)
theorem sh12 {e : Option EqK} {k' : IntKind} {s : Nat} : gbin .shr e (.int .i32 (s : Int)) (.int k' 12) = some (.int .i32 ((s / 4096 : Nat) : Int)) := gb_shr (s := 12) (by decide)
theorem fillb1 {a : Int} : fillL (ints .u8 (List.replicate 1 0)) [(0, 1, .int .u8 a)] = some [.int .u8 a] := rfl
theorem fillb2 {a b : Int} : fillL (ints .u8 (List.replicate 2 0)) [(0, 1, .int .u8 a), (1, 1, .int .u8 b)] = some [.int .u8 a, .int .u8 b] := rfl
theorem fillb3 {a b c : Int} : fillL (ints .u8 (List.replicate 3 0)) [(0, 1, .int .u8 a), (1, 1, .int .u8 b), (2, 1, .int .u8 c)] = some [.int .u8 a, .int .u8 b, .int .u8 c] := rfl
theorem rep_le {x : Nat} (hx : x ∈ REP) : 32 ≤ x ∧ x ≤ 9834 := by
  have := List.all_eq_true.1 rep_range x hx
  simpa using this
theorem append_na {H0 H : GHeap} {v : Value} {n : Nat} {xs : List Value} (h : OS 1 257 H0 H v n xs) {x : Nat} (hx : x ∈ REP) (h127 : ¬ x ≤ 127) (hn : n < 140737488000000) :
    ∃ r H', gev G 94 [v, .int .i32 (x : Int)] H = some (r, H') ∧ (OS 1 257 H0 H' r (n + (encL x).length) (xs ++ u8s (encL x)) ∧ But (fun j => j ∈ idOf v) H H') := by
  refine gev_GW (f := 94) rfl fun Post hPost => ?_
  have hr := rep_le hx
  have he := encL_eq hx
  rw [if_neg h127] at he
  simp only [frameOf, Nat.reduceAdd]
  have hu := wrap_u32n (n := x) (by omega)
  by_cases h2 : x ≤ 2047
  · rw [if_pos h2] at he
    rw [he] at hPost
    repeat' (first | (exfalso; omega) | refine zn ?_ | refine zK rfl ?_ | refine zP rfl ?_ | ((first | refine zm ?_ | skip); intro _; intros; simp (disch := first | exact zd | fail) only [↓yS, yT, gresults, gone, ↓reduceIte, Nat.reduceEqDiff, Nat.reduceAdd, Nat.reduceMul, reduceCtorEq, Int.reduceToNat, g94, hu, sh6, and63, and63n, or192, or192n, or128, wrap_u8n, fillb2]; first | (rename_i K k; (first | refine yC (k _ _ ?_) | refine zg (k _ ?_)); clear k K) | (rename_i A B C D a b c d; (first | refine zx (a ?_) | refine zy (b ?_) | refine zz (fun hc => c ?_) (fun hc => d ?_) | refine zv (b ?_) | refine zw (a ?_)) <;> clear a b c d A B C D <;> try simp only [yL] at hc)) | refine zA ?_ | refine zB ?_ | refine zF ?_)
    refine Gw_s fun K' hK' => ?_
    simp (disch := first | exact zd | fail) only [↓yS, yT, ↓reduceIte, Nat.reduceEqDiff, Nat.reduceAdd, Nat.reduceMul, reduceCtorEq, Int.reduceToNat]
    obtain ⟨v', H', e, hO, hB⟩ := h.appB (enc2 x) (by simp [enc2]; omega)
    refine G1_eq e (hK' _ _ ?_)
    clear hK' K' e
    repeat' (first | (exfalso; omega) | refine zn ?_ | refine zK rfl ?_ | refine zP rfl ?_ | ((first | refine zm ?_ | skip); intro _; intros; simp (disch := first | exact zd | fail) only [↓yS, yT, gresults, gone, ↓reduceIte, Nat.reduceEqDiff, Nat.reduceAdd, Nat.reduceMul, reduceCtorEq, Int.reduceToNat, g94]; first | (rename_i K k; (first | refine yC (k _ _ ?_) | refine zg (k _ ?_)); clear k K) | (rename_i A B C D a b c d; (first | refine zx (a ?_) | refine zy (b ?_) | refine zz (fun hc => c ?_) (fun hc => d ?_) | refine zv (b ?_) | refine zw (a ?_)) <;> clear a b c d A B C D <;> try simp only [yL] at hc)) | refine zA ?_ | refine zB ?_ | refine zF ?_)
    exact hPost _ _ ⟨hO, hB⟩
  · rw [if_neg h2] at he
    rw [he] at hPost
    have hd1 : decide ((x : Int) < 55296) = true := decide_eq_true (by omega)
    repeat' (first | (exfalso; omega) | refine zn ?_ | refine zK rfl ?_ | refine zP rfl ?_ | ((first | refine zm ?_ | skip); intro _; intros; simp (disch := first | exact zd | fail) only [↓yS, yT, gresults, gone, ↓reduceIte, Nat.reduceEqDiff, Nat.reduceAdd, Nat.reduceMul, reduceCtorEq, Int.reduceToNat, g94, hu, hd1, sh6, sh12, and63, and63n, or224, or224n, or128, wrap_u8n, fillb3]; first | (rename_i K k; (first | refine yC (k _ _ ?_) | refine zg (k _ ?_)); clear k K) | (rename_i A B C D a b c d; (first | refine zx (a ?_) | refine zy (b ?_) | refine zz (fun hc => c ?_) (fun hc => d ?_) | refine zv (b ?_) | refine zw (a ?_)) <;> clear a b c d A B C D <;> try simp only [yL] at hc)) | refine zA ?_ | refine zB ?_ | refine zF ?_)
    refine Gw_s fun K' hK' => ?_
    simp (disch := first | exact zd | fail) only [↓yS, yT, ↓reduceIte, Nat.reduceEqDiff, Nat.reduceAdd, Nat.reduceMul, reduceCtorEq, Int.reduceToNat]
    obtain ⟨v', H', e, hO, hB⟩ := h.appB (enc3 x) (by simp [enc3]; omega)
    refine G1_eq e (hK' _ _ ?_)
    clear hK' K' e
    repeat' (first | (exfalso; omega) | refine zn ?_ | refine zK rfl ?_ | refine zP rfl ?_ | ((first | refine zm ?_ | skip); intro _; intros; simp (disch := first | exact zd | fail) only [↓yS, yT, gresults, gone, ↓reduceIte, Nat.reduceEqDiff, Nat.reduceAdd, Nat.reduceMul, reduceCtorEq, Int.reduceToNat, g94]; first | (rename_i K k; (first | refine yC (k _ _ ?_) | refine zg (k _ ?_)); clear k K) | (rename_i A B C D a b c d; (first | refine zx (a ?_) | refine zy (b ?_) | refine zz (fun hc => c ?_) (fun hc => d ?_) | refine zv (b ?_) | refine zw (a ?_)) <;> clear a b c d A B C D <;> try simp only [yL] at hc)) | refine zA ?_ | refine zB ?_ | refine zF ?_)
    exact hPost _ _ ⟨hO, hB⟩
theorem append_ok {H0 H : GHeap} {v : Value} {n : Nat} {xs : List Value} (h : OS 1 257 H0 H v n xs) {x : Nat} (hx : x ∈ REP) (hn : n < 140737488000000) :
    ∃ r H', gev G 84 [v, .int .i32 (x : Int)] H = some (r, H') ∧ (OS 1 257 H0 H' r (n + (encL x).length) (xs ++ u8s (encL x)) ∧ But (fun j => j ∈ idOf v) H H') := by
  refine gev_GW (f := 84) rfl fun Post hPost => ?_
  have hr := rep_le hx
  have he := encL_eq hx
  simp only [frameOf, Nat.reduceAdd]
  have hu := wrap_u32n (n := x) (by omega)
  by_cases h1 : x ≤ 127
  · rw [if_pos h1] at he
    rw [he] at hPost
    have hu8 : IntKind.u8.wrap (x : Int) = ((UInt8.ofNat x).toNat : Int) := wrap_u8n
    repeat' (first | (exfalso; omega) | refine zn ?_ | refine zK rfl ?_ | refine zP rfl ?_ | ((first | refine zm ?_ | skip); intro _; intros; simp (disch := first | exact zd | fail) only [↓yS, yT, gresults, gone, ↓reduceIte, Nat.reduceEqDiff, Nat.reduceAdd, Nat.reduceMul, reduceCtorEq, Int.reduceToNat, g84, hu, fillb1]; first | (rename_i K k; (first | refine yC (k _ _ ?_) | refine zg (k _ ?_)); clear k K) | (rename_i A B C D a b c d; (first | refine zx (a ?_) | refine zy (b ?_) | refine zz (fun hc => c ?_) (fun hc => d ?_) | refine zv (b ?_) | refine zw (a ?_)) <;> clear a b c d A B C D <;> try simp only [yL] at hc)) | refine zA ?_ | refine zB ?_ | refine zF ?_)
    have hcell : (u8s (List.replicate 1 0)).set 0 (.int .u8 (x : Int)) = u8s [UInt8.ofNat x] := by
      have : (UInt8.ofNat x).toNat = x := by rw [UInt8.toNat_ofNat']; omega
      simp [u8s, this]
    rw [hcell]
    refine Gw_s fun K' hK' => ?_
    simp (disch := first | exact zd | fail) only [↓yS, yT, ↓reduceIte, Nat.reduceEqDiff, Nat.reduceAdd, Nat.reduceMul, reduceCtorEq, Int.reduceToNat]
    obtain ⟨v', H', e, hO, hB⟩ := h.appB [UInt8.ofNat x] (by simp; omega)
    refine G1_eq e (hK' _ _ ?_)
    clear hK' K' e
    repeat' (first | (exfalso; omega) | refine zn ?_ | refine zK rfl ?_ | refine zP rfl ?_ | ((first | refine zm ?_ | skip); intro _; intros; simp (disch := first | exact zd | fail) only [↓yS, yT, gresults, gone, ↓reduceIte, Nat.reduceEqDiff, Nat.reduceAdd, Nat.reduceMul, reduceCtorEq, Int.reduceToNat, g84]; first | (rename_i K k; (first | refine yC (k _ _ ?_) | refine zg (k _ ?_)); clear k K) | (rename_i A B C D a b c d; (first | refine zx (a ?_) | refine zy (b ?_) | refine zz (fun hc => c ?_) (fun hc => d ?_) | refine zv (b ?_) | refine zw (a ?_)) <;> clear a b c d A B C D <;> try simp only [yL] at hc)) | refine zA ?_ | refine zB ?_ | refine zF ?_)
    exact hPost _ _ ⟨hO, hB⟩
  · repeat' (first | (exfalso; omega) | refine zn ?_ | refine zK rfl ?_ | refine zP rfl ?_ | ((first | refine zm ?_ | skip); intro _; intros; simp (disch := first | exact zd | fail) only [↓yS, yT, gresults, gone, ↓reduceIte, Nat.reduceEqDiff, Nat.reduceAdd, Nat.reduceMul, reduceCtorEq, Int.reduceToNat, g84, hu]; first | (rename_i K k; (first | refine yC (k _ _ ?_) | refine zg (k _ ?_)); clear k K) | (rename_i A B C D a b c d; (first | refine zx (a ?_) | refine zy (b ?_) | refine zz (fun hc => c ?_) (fun hc => d ?_) | refine zv (b ?_) | refine zw (a ?_)) <;> clear a b c d A B C D <;> try simp only [yL] at hc)) | refine zA ?_ | refine zB ?_ | refine zF ?_)
    refine Gw_s fun K' hK' => G1_call (by simp only [gtarget, ↓GArg.ev, ↓evs, ↓Tr.get_set, Nat.reduceEqDiff, if_true, if_false, ↓reduceIte, Option.map_some]; rfl) (append_na h hx h1 hn) fun r2 H2 hq => hK' _ _ ?_
    repeat' (first | (exfalso; omega) | refine zn ?_ | refine zK rfl ?_ | refine zP rfl ?_ | ((first | refine zm ?_ | skip); intro _; intros; simp (disch := first | exact zd | fail) only [↓yS, yT, gresults, gone, ↓reduceIte, Nat.reduceEqDiff, Nat.reduceAdd, Nat.reduceMul, reduceCtorEq, Int.reduceToNat, g84]; first | (rename_i K k; (first | refine yC (k _ _ ?_) | refine zg (k _ ?_)); clear k K) | (rename_i A B C D a b c d; (first | refine zx (a ?_) | refine zy (b ?_) | refine zz (fun hc => c ?_) (fun hc => d ?_) | refine zv (b ?_) | refine zw (a ?_)) <;> clear a b c d A B C D <;> try simp only [yL] at hc)) | refine zA ?_ | refine zB ?_ | refine zF ?_)
    exact hPost _ _ hq
def ofB (l : List Int) : List UInt8 := if (l.all fun r => decide (0 ≤ idxN r)) = true then l.flatMap fun r => encL r.toNat else []
def encs' (l : List Int) : List UInt8 := l.flatMap fun r => encL r.toNat
theorem ofB_bad {l : List Int} {r : Int} (hr : r ∈ l) (h : idxN r < 0) : ofB l = [] := by
  unfold ofB
  rw [if_neg]
  intro hh
  have := List.all_eq_true.1 hh r hr
  simp only [decide_eq_true_eq] at this
  omega
theorem ofB_all {l : List Int} (h : ∀ r ∈ l, 0 ≤ idxN r) : ofB l = encs' l := by
  unfold ofB
  rw [if_pos (List.all_eq_true.2 fun r hr => decide_eq_true (h r hr))]; rfl
theorem encs'_take {l : List Int} {j : Nat} (h : j < l.length) : encs' (l.take (j + 1)) = encs' (l.take j) ++ encL (l[j]!).toNat := by
  rw [encs', List.take_succ_eq_append_getElem h, List.flatMap_append, getElem!_pos l j h]
  simp [encs']
theorem encs'_le {l : List Int} (h : ∀ r ∈ l, 0 ≤ idxN r) : (encs' l).length ≤ 3 * l.length := by
  induction l with
  | nil => simp [encs']
  | cons r l ih =>
    have h1 := ih fun x hx => h x (by simp [hx])
    obtain ⟨x, hx, hxr⟩ := idx_mem (r := r) (by have := h r (by simp); omega)
    have h2 := (encL_len hx).1
    have h3 : r.toNat = x := by omega
    simp only [encs', List.flatMap_cons, List.length_append, List.length_cons, h3] at h1 ⊢
    omega
theorem of_ok {H : GHeap} (hw : H.wf) {v : Value} {l : List Int} (hv : GRd H 1 v l.length (ints .i32 l)) (hl : ∀ n ∈ l, -2147483648 ≤ n ∧ n ≤ 2147483647) (hn : l.length ≤ 35184372088832) :
    ∃ r H', gev G 67 [v] H = some (r, H') ∧ (r = .string (strB (ofB l)) ∧ Same H H') := by
  refine gev_GW (f := 67) rfl fun Post hPost => ?_
  have hsl := hv.isSl
  simp only [frameOf, Nat.reduceAdd]
  repeat' (first | refine zn ?_ | refine zK rfl ?_ | refine zP rfl ?_ | ((first | refine zm ?_ | skip); intro _; intros; simp (disch := first | exact zd | fail) only [↓yS, yT, gresults, gone, ↓reduceIte, Nat.reduceEqDiff, Nat.reduceAdd, Nat.reduceMul, reduceCtorEq, Int.reduceToNat, g67, hsl.len]; first | (rename_i K k; (first | refine yC (k _ _ ?_) | refine zg (k _ ?_)); clear k K) | (rename_i A B C D a b c d; (first | refine zx (a ?_) | refine zy (b ?_) | refine zz (fun hc => c ?_) (fun hc => d ?_) | refine zv (b ?_) | refine zw (a ?_)) <;> clear a b c d A B C D <;> try simp only [yL] at hc)) | refine zA ?_ | refine zB ?_ | refine zF ?_)
  refine GW_loop (fun k fr H1 => ∃ (j : Nat) (w : Value), k = l.length - j ∧ j ≤ l.length ∧ fr.get 3 = some (w) ∧ fr.get 6 = some (v) ∧ fr.get 7 = some (.int .i64 l.length) ∧ fr.get 8 = some (.int .i64 j) ∧ OS 1 257 H H1 w (encs' (l.take j)).length (u8s (encs' (l.take j))) ∧ ∀ r ∈ l.take j, 0 ≤ idxN r) ?_ l.length ?_
  case refine_2 =>
    refine ⟨0, .slice none 0 0, by omega, by omega, ?_⟩
    simp only [↓yG, Nat.reduceEqDiff, ↓reduceIte, Int.natCast_add, Int.cast_ofNat_Int, Int.natCast_zero, true_and, and_true, Option.some.injEq, Value.int.injEq]
    exact ⟨OS.nil (Same.refl hw), by simp⟩
  rintro k fr H1 ⟨j, w, rfl, hj, f3, f6, f7, f8, hO, hin⟩ J hJ
  by_cases hjl : j < l.length
  · have hrd : H1.rd (blk v) (ofs v + j) = some (.int .i32 l[j]!) := by
      rw [hO.same.rd (hv.lt (by omega)), hv.rd (by rw [ints_length]; exact hjl), ints_at hjl]
    have hmem : l[j]! ∈ l := by rw [getElem!_pos l j hjl]; exact List.getElem_mem hjl
    have hr := hl _ hmem
    have hle := encs'_le hin
    simp only [List.length_take] at hle
    generalize hx : l[j]! = x at *
    repeat' (first | refine zn ?_ | refine zK rfl ?_ | refine zP rfl ?_ | ((first | refine zm ?_ | skip); intro _; intros; simp (disch := first | exact zd | fail) only [↓yS, yT, gresults, gone, ↓reduceIte, Nat.reduceEqDiff, Nat.reduceAdd, Nat.reduceMul, reduceCtorEq, Int.reduceToNat, g67, f3, f6, f7, f8, hsl.ia, hrd]; first | (rename_i K k; (first | refine yC (k _ _ ?_) | refine zg (k _ ?_)); clear k K) | (rename_i A B C D a b c d; (first | refine zx (a ?_) | refine zy (b ?_) | refine zz (fun hc => c ?_) (fun hc => d ?_) | refine zv (b ?_) | refine zw (a ?_)) <;> clear a b c d A B C D <;> try simp only [yL] at hc)) | refine zA ?_ | refine zB ?_ | refine zF ?_)
    refine Gw_s fun K' hK' => G1_call (by simp only [gtarget, ↓GArg.ev, ↓evs, ↓Tr.get_set, Nat.reduceEqDiff, if_true, if_false, ↓reduceIte, Option.map_some, f3, f6, f7, f8]; rfl) (one_of (idx_ok hr _)) fun r1 H2 hq => hK' _ _ ?_
    obtain ⟨rfl, rfl⟩ := hq
    repeat' (first | refine zn ?_ | refine zK rfl ?_ | refine zP rfl ?_ | ((first | refine zm ?_ | skip); intro _; intros; simp (disch := first | exact zd | fail) only [↓yS, yT, gresults, gone, ↓reduceIte, Nat.reduceEqDiff, Nat.reduceAdd, Nat.reduceMul, reduceCtorEq, Int.reduceToNat, g67, f3, f6, f7, f8]; first | (rename_i K k; (first | refine yC (k _ _ ?_) | refine zg (k _ ?_)); clear k K) | (rename_i A B C D a b c d; (first | refine zx (a ?_) | refine zy (b ?_) | refine zz (fun hc => c ?_) (fun hc => d ?_) | refine zv (b ?_) | refine zw (a ?_)) <;> clear a b c d A B C D <;> try simp only [yL] at hc)) | refine zA ?_ | refine zB ?_ | refine zF ?_)
    case pos.refine_1.refine_1 =>
      exact hPost _ _ ⟨by rw [ofB_bad hmem hc]; rfl, hO.same⟩
    case pos.refine_1.refine_2 =>
      obtain ⟨y, hy, rfl⟩ := idx_mem (r := x) (by omega)
      refine Gw_s fun K' hK' => G1_call (by simp only [gtarget, ↓GArg.ev, ↓evs, ↓Tr.get_set, Nat.reduceEqDiff, if_true, if_false, ↓reduceIte, Option.map_some, f3, f6, f7, f8]; rfl) (append_ok hO hy (by omega)) fun r3 H3 hq => hK' _ _ ?_
      obtain ⟨hO3, hB3⟩ := hq
      repeat' (first | refine zn ?_ | refine zK rfl ?_ | refine zP rfl ?_ | ((first | refine zm ?_ | skip); intro _; intros; simp (disch := first | exact zd | fail) only [↓yS, yT, gresults, gone, ↓reduceIte, Nat.reduceEqDiff, Nat.reduceAdd, Nat.reduceMul, reduceCtorEq, Int.reduceToNat, g67, f3, f6, f7, f8]; first | (rename_i K k; (first | refine yC (k _ _ ?_) | refine zg (k _ ?_)); clear k K) | (rename_i A B C D a b c d; (first | refine zx (a ?_) | refine zy (b ?_) | refine zz (fun hc => c ?_) (fun hc => d ?_) | refine zv (b ?_) | refine zw (a ?_)) <;> clear a b c d A B C D <;> try simp only [yL] at hc)) | refine zA ?_ | refine zB ?_ | refine zF ?_)
      have ht := encs'_take hjl
      rw [hx, Int.toNat_natCast] at ht
      refine hJ _ _ ⟨l.length - (j + 1), by omega, j + 1, r3, rfl, by omega, ?_⟩
      rw [ht, List.length_append, u8s_append]
      simp only [↓yG, Nat.reduceEqDiff, ↓reduceIte, Int.natCast_add, Int.cast_ofNat_Int, Int.natCast_zero, true_and, and_true, Option.some.injEq, Value.int.injEq, f6, f7]
      refine ⟨hO3, fun r hr2 => ?_⟩
      rw [List.take_succ_eq_append_getElem hjl] at hr2
      rcases List.mem_append.1 hr2 with h | h
      · exact hin r h
      · rw [List.mem_singleton.1 h, ← getElem!_pos l j hjl, hx]; omega
    case pos.refine_2 => omega
  · obtain rfl : j = l.length := by omega
    rw [List.take_length] at hO hin
    have hR : RB H1 w (encs' l) := OwnG.arg hO.same.wf hO.own (.inr rfl)
    have hst := hR.str
    repeat' (first | (exfalso; omega) | refine zn ?_ | refine zK rfl ?_ | refine zP rfl ?_ | ((first | refine zm ?_ | skip); intro _; intros; simp (disch := first | exact zd | fail) only [↓yS, yT, gresults, gone, ↓reduceIte, Nat.reduceEqDiff, Nat.reduceAdd, Nat.reduceMul, reduceCtorEq, Int.reduceToNat, g67, f3, f6, f7, f8, hst]; first | (rename_i K k; (first | refine yC (k _ _ ?_) | refine zg (k _ ?_)); clear k K) | (rename_i A B C D a b c d; (first | refine zx (a ?_) | refine zy (b ?_) | refine zz (fun hc => c ?_) (fun hc => d ?_) | refine zv (b ?_) | refine zw (a ?_)) <;> clear a b c d A B C D <;> try simp only [yL] at hc)) | refine zA ?_ | refine zB ?_ | refine zF ?_)
    exact hPost _ _ ⟨by rw [ofB_all hin], hO.same⟩
end Go.Gh
