/-
  Plain: the text of a glossary is parsed to it again.
-/
import Derived.Test.YtfldcmeecpgpeaaGreatDoorGzT
namespace Go.Gh
set_option linter.unusedSimpArgs false
set_option linter.unusedVariables false
set_option maxHeartbeats 4000000
open Go.RowKit Go.Lib
set_option maxRecDepth 100000
def okB (b : UInt8) : Prop := ¬ (b < 32 ∨ b = 127)
theorem enc_bytes : (REP.all fun x => (encL x).all fun b => !(decide (b < 32)) && !(decide (b = 127))) = true := by kernel_rfl
theorem phr_bytes {t : List UInt8} (h : phrB t = true) : ∀ b ∈ t, okB b := by
  have hv : vldB (strB t) = true := by
    unfold phrB at h
    simp only [Bool.and_eq_true] at h
    exact h.1.1.1.1.1
  have h1 := enc_rns hv
  have h2 : (strB t).data.toList = t := strB_data t
  rw [h2] at h1
  intro b hb
  rw [← h1, List.mem_flatMap] at hb
  obtain ⟨x, hx, hbx⟩ := hb
  have h3 := List.all_eq_true.1 enc_bytes x (vldB_mem hv x hx)
  have h4 := List.all_eq_true.1 h3 b hbx
  simp only [Bool.and_eq_true, Bool.not_eq_true', decide_eq_false_iff_not] at h4
  exact fun h => h.elim h4.1 h4.2
theorem qtB_cons (b : UInt8) (t : List UInt8) : qtB (b :: t) = qt1 b ++ qtB t := rfl
theorem qtd_body {rest : List UInt8} (hr : rest = [] ∨ ∃ r, rest = 32 :: r) : ∀ (t : List UInt8) (i : Nat) (o : List UInt8), (∀ b ∈ t, okB b) → qtd (qtB t ++ 34 :: rest) i o = .ok (o ++ t) (i + (qtB t).length + 1)
  | [], i, o, _ => by
    rcases hr with rfl | ⟨r, rfl⟩
    · simp [qtB, qtd]
    · simp [qtB, qtd]
  | b :: t, i, o, h => by
    have hb := h b (by simp)
    have ih := fun i o => qtd_body hr t i o fun c hc => h c (by simp [hc])
    have h10 : ¬ b = 10 := by rintro rfl; exact hb (.inl (by decide))
    rw [qtB_cons]
    unfold qt1
    by_cases h34 : b = 34 ∨ b = 92
    · rw [if_pos h34]
      simp only [List.cons_append, List.nil_append, qtd]
      rw [if_neg (by decide), if_pos trivial, if_pos h34, ih]
      simp only [List.append_assoc, List.singleton_append, List.length_cons]
      congr 1; omega
    · rw [if_neg h34, if_neg h10]
      have h34' : ¬ b = 34 := fun e => h34 (.inl e)
      have h92' : ¬ b = 92 := fun e => h34 (.inr e)
      obtain ⟨c, r, hX⟩ : ∃ c r, qtB t ++ 34 :: rest = c :: r := by
        cases hq : qtB t with
        | nil => exact ⟨_, _, rfl⟩
        | cons c r => exact ⟨c, r ++ 34 :: rest, rfl⟩
      rw [List.singleton_append, List.cons_append, hX]
      simp only [qtd]
      rw [if_neg h34', if_neg h92', if_neg hb, ← hX, ih]
      simp only [List.append_assoc, List.singleton_append, List.length_cons]
      congr 1; omega
def qf : List (List UInt8) → Nat → List Fd
  | [], _ => []
  | t :: g, i => ⟨t, i + 2, true⟩ :: qf g (i + 1 + (quoF t).length)
theorem qf_t : ∀ (g : List (List UInt8)) (i : Nat), (qf g i).map (·.t) = g
  | [], _ => rfl
  | t :: g, i => by simp [qf, qf_t g]
theorem errQ_qf : ∀ (g : List (List UInt8)) (n i : Nat), n ≤ g.length → errQ n (qf g i) = none
  | [], n, i, h => by
    have : n = 0 := by simpa using h
    subst this; rfl
  | t :: g, n, i, h => by
    simp only [List.length_cons] at h
    have ih := errQ_qf g (n - 1) (i + 1 + (quoF t).length) (by omega)
    cases n with
    | zero => simp only [qf, errQ, if_true]; exact ih
    | succ n => simp only [qf, errQ, if_true]; exact ih
theorem tgB_cons (t : List UInt8) (g : List (List UInt8)) : tgB (t :: g) = 32 :: 34 :: (qtB t ++ 34 :: tgB g) := by
  simp [tgB, quoF]
theorem tgB_head : ∀ g : List (List UInt8), tgB g = [] ∨ ∃ r, tgB g = 32 :: r
  | [] => .inl rfl
  | t :: g => .inr ⟨_, tgB_cons t g⟩
theorem quoF_length (t : List UInt8) : (quoF t).length = (qtB t).length + 2 := by simp [quoF]
theorem fldsN_tg : ∀ (g : List (List UInt8)) (n i : Nat), (∀ t ∈ g, ∀ b ∈ t, okB b) → (tgB g).length ≤ n → fldsN n (tgB g) i = .ok (qf g i)
  | [], n, i, _, _ => by cases n <;> rfl
  | t :: g, n, i, h, hn => by
    have hlen : (tgB (t :: g)).length = (qtB t).length + 3 + (tgB g).length := by
      rw [tgB_cons]; simp; omega
    rw [hlen] at hn
    obtain ⟨m, rfl⟩ : ∃ m, n = m + 2 := ⟨n - 2, by omega⟩
    rw [tgB_cons]
    simp only [fldsN]
    rw [if_pos trivial, if_neg (by decide), if_neg (by decide)]
    have h1 : fld1 34 (qtB t ++ 34 :: tgB g) (i + 1) = .ok t (i + 2 + (qtB t).length + 1) := by
      unfold fld1
      rw [if_pos rfl, qtd_body (tgB_head g) t _ _ (h t (by simp))]
      rfl
    rw [h1]
    simp only
    have h2 : (34 :: (qtB t ++ 34 :: tgB g)).drop (i + 2 + (qtB t).length + 1 - (i + 1)) = tgB g := by
      rw [show i + 2 + (qtB t).length + 1 - (i + 1) = ((qtB t).length + 1) + 1 by omega, List.drop_succ_cons]
      rw [show qtB t ++ 34 :: tgB g = (qtB t ++ [34]) ++ tgB g by simp]
      exact List.drop_left' (by simp)
    rw [h2, fldsN_tg g m _ (fun t ht => h t (by simp [ht])) (by omega)]
    simp only [FdR.pre, List.singleton_append, qf]
    have h3 : i + 1 + (quoF t).length = i + 2 + (qtB t).length + 1 := by rw [quoF_length]; omega
    rw [h3]
    simp
def tfL (x : Tm) : List Fd := ⟨termB, 1, false⟩ :: qf (x.s :: x.g) 4
theorem tline_tg (x : Tm) : tline x = 84 :: 69 :: 82 :: 77 :: tgB (x.s :: x.g) := by
  simp [tline, termB, tgB]
theorem flds_tline {x : Tm} (hx : TmOk x) : flds (tline x) 0 = .ok (tfL x) := by
  have hg : ∀ t ∈ x.s :: x.g, ∀ b ∈ t, okB b := fun t ht => by
    rcases List.mem_cons.1 ht with rfl | ht
    · exact phr_bytes hx.s
    · exact phr_bytes (hx.g t ht)
  unfold flds
  rw [List.drop_zero, tline_tg]
  simp only [List.length_cons, fldsN]
  rw [if_neg (by decide), if_neg (by decide)]
  have h1 : fld1 84 (69 :: 82 :: 77 :: tgB (x.s :: x.g)) 0 = .ok termB 4 := by
    rw [tgB_cons]
    unfold fld1
    rw [if_neg (by decide), if_pos (by decide)]
    simp only [wrd]
    rw [if_neg (by decide), if_pos (by decide), if_neg (by decide), if_pos (by decide), if_neg (by decide), if_pos (by decide), if_pos trivial]
    rfl
  rw [h1]
  simp only
  have h2 : (84 :: 69 :: 82 :: 77 :: tgB (x.s :: x.g)).drop (4 - 0) = tgB (x.s :: x.g) := rfl
  rw [h2, fldsN_tg _ _ _ hg (by omega)]
  rfl
theorem lns_txt : ∀ l : List Tm, lns (l.flatMap fun x => tline x ++ [10]) = l.map tline ++ [[]]
  | [] => rfl
  | x :: l => by
    rw [List.flatMap_cons, List.append_assoc, List.singleton_append, lns_hit (tline_10 x), lns_txt l]
    rfl
def LN (l : List Tm) (k : Nat) : List Ln := (List.range k).map fun i => ⟨i + 1, tfL l[i]!⟩
theorem lineR_tm {x : Tm} (hx : TmOk x) (h : ¬ 1000 < (tline x).length) : lineR (tline x) = .ok (tfL x) := lineR_ok h (flds_tline hx)
theorem lines_at {l : List Tm} {i : Nat} (h : i < l.length) : (l.map tline ++ [[]])[i]! = tline l[i]! := by
  rw [getElem!_pos _ i (by simp; omega), List.getElem_append_left (by simpa using h), List.getElem_map, getElem!_pos l i h]
theorem lines_end (l : List Tm) : (l.map tline ++ [[]])[l.length]! = [] := by
  rw [getElem!_pos _ l.length (by simp), List.getElem_append_right (by simp)]
  simp
theorem outF_txt {l : List Tm} (hok : ∀ x ∈ l, TmOk x) (hb : ∀ x ∈ l, ¬ 1000 < (tline x).length) : ∀ k, k ≤ l.length → outF (l.map tline ++ [[]]) k = LN l k ∧ dgF (l.map tline ++ [[]]) k = []
  | 0, _ => ⟨rfl, rfl⟩
  | k + 1, hk => by
    have ih := outF_txt hok hb k (by omega)
    have hm := bang_mem (show k < l.length by omega)
    have h1 := lineR_tm (hok _ hm) (hb _ hm)
    rw [outF_succ, dgF_succ, lines_at (by omega), h1, ih.1, ih.2]
    refine ⟨?_, rfl⟩
    unfold LN
    rw [List.range_succ, List.map_append]
    rfl
theorem LN_at {l : List Tm} {i : Nat} (h : i < l.length) : (LN l l.length)[i]! = ⟨i + 1, tfL l[i]!⟩ := by
  rw [getElem!_pos _ i (by simpa [LN] using h)]
  simp [LN]
theorem lnErr_tf {x : Tm} (hx : TmOk x) (n : Nat) : lnErr ⟨n, tfL x⟩ = none := by
  unfold lnErr
  have h0 : (tfL x)[0]! = ⟨termB, 1, false⟩ := rfl
  have h1 : (tfL x).drop 1 = qf (x.s :: x.g) 4 := rfl
  simp only
  rw [h0, h1, if_pos (by decide), errQ_qf _ _ _ (by have := hx.n; simp; omega)]
theorem lnT_tf (x : Tm) (n : Nat) : lnT ⟨n, tfL x⟩ = x.t0 := by
  unfold lnT Tm.t0
  have h1 : (tfL x)[1]!.t = x.s := rfl
  have h2 : (tfL x).drop 2 = qf x.g (4 + 1 + (quoF x.s).length) := rfl
  simp only
  rw [h1, h2, qf_t]
theorem par_txt {l : List Tm} (h : (txtF l).2 = 0) : (txtF l).1.length ≤ 262144 ∧ parD (txtF l).1 = [] ∧ parT (txtF l).1 = l.map Tm.t0 := by
  unfold txtF at h ⊢
  by_cases hc : chkF l = 0
  case neg => rw [if_pos hc] at h; exact absurd h hc
  rw [if_neg (fun e => e hc)] at h ⊢
  by_cases hb : txtB l l.length = true
  · rw [if_pos hb] at h; cases h
  rw [if_neg hb] at h ⊢
  by_cases hbig : 262144 < (txtO l l.length).length
  · rw [if_pos hbig] at h; cases h
  rw [if_neg hbig]
  simp only
  obtain ⟨_, hok⟩ := chk_ok hc
  have hb' : ∀ x ∈ l, ¬ 1000 < (tline x).length := fun x hx hh => hb (by
    unfold txtB
    rw [List.take_length, List.any_eq_true]
    exact ⟨x, hx, decide_eq_true hh⟩)
  have hl : lns (txtO l l.length) = l.map tline ++ [[]] := by
    unfold txtO
    rw [List.take_length]; exact lns_txt l
  obtain ⟨h1, h2⟩ := outF_txt hok hb' l.length (Nat.le_refl _)
  have hlen : (l.map tline ++ [[]]).length = l.length + 1 := by simp
  have hle : lineR [] = .ok [] := lineR_ok (by decide) (flds_end (Nat.le_refl _))
  have hO : splO (txtO l l.length) = LN l l.length := by
    unfold splO
    rw [if_neg hbig, hl, hlen, outF_succ, lines_end, hle, h1]
    simp
  have hD : splD (txtO l l.length) = [] := by
    unfold splD
    rw [if_neg hbig, hl, hlen, dgF_succ, lines_end, hle, h2]
    rfl
  have hLl : (LN l l.length).length = l.length := by simp [LN]
  have hdg : ∀ k, k ≤ l.length → dgM (LN l l.length) k = [] ∧ tmM (LN l l.length) k = (l.take k).map Tm.t0 := by
    intro k
    induction k with
    | zero => intro _; exact ⟨rfl, rfl⟩
    | succ k ih =>
      intro hk
      obtain ⟨i1, i2⟩ := ih (by omega)
      have hat := LN_at (show k < l.length by omega)
      have hm := bang_mem (show k < l.length by omega)
      rw [dgM_succ, tmM_succ, hat, lnErr_tf (hok _ hm), lnT_tf, i1, i2, List.take_succ_eq_append_getElem (by omega), List.map_append, getElem!_pos l k (by omega)]
      exact ⟨rfl, rfl⟩
  obtain ⟨hd, ht⟩ := hdg l.length (Nat.le_refl _)
  rw [List.take_length] at ht
  have hck : chkF ((l.map Tm.t0).map T0.tm) = 0 := by
    rw [chkF_t0 (l' := l) (t0_tm _)]; exact hc
  refine ⟨by omega, ?_, ?_⟩
  · unfold parD
    rw [hD, hO, hLl, hd, ht, hck]
    simp
  · unfold parT
    rw [hD, hO, hLl, hd, ht, hck]
    simp
end Go.Gh
