/-
  Plain: documents, what is asked of them, and a document in another rate.
-/
import Derived.Test.YtjjcgaompnjbdaaDoorSyN4
import Derived.Test.YtjjcgaompnjbdaaDoorTrF
namespace Go.Gh
set_option linter.unusedSimpArgs false
set_option linter.unusedVariables false
set_option maxHeartbeats 4000000
open Go.RowKit
set_option maxRecDepth 4000

/-- a region -/
structure Rg where
  nm : List UInt8
  t : Int
  h : Int
  l : Int
  w : Int
  al : Int
  bt : Bool
deriving DecidableEq, Inhabited
/-- an event -/
structure Ev where
  id : Int
  i : Int
  o : Int
  rg : List UInt8
  kd : Int
  sp : List UInt8
  v : Value
  L : List VR'
deriving Inhabited
/-- a comment -/
structure Cm where
  id : Int
  ev : Int
  fr : Int
  to : Int
  au : List UInt8
  tx : List UInt8
  dn : Bool
  lo : Bool
deriving DecidableEq, Inhabited
/-- a document -/
structure Dc where
  ti : List UInt8
  la : List UInt8
  rt : Int
  dr : Bool
  last : Int
  rv : Value
  R : List Rg
  ev : Value
  E : List Ev
  cv : Value
  C : List Cm
deriving Inhabited
def Ev.rows (e : Ev) : List (List SR) := e.L.map (·.2)

/-! ### what is asked -/
def capB (b : UInt8) : Bool := decide (65 ≤ b.toNat ∧ b.toNat ≤ 90)
def namB (b : UInt8) : Bool := decide ((65 ≤ b.toNat ∧ b.toNat ≤ 90) ∨ (48 ≤ b.toNat ∧ b.toNat ≤ 57) ∨ b.toNat = 95 ∨ b.toNat = 45)
def nameF (l : List UInt8) : Bool := decide (1 ≤ l.length ∧ l.length ≤ 16) && capB l[0]! && l.all namB
def rgOk (r : Rg) : Prop := nameF r.nm = true ∧ (0 ≤ r.t ∧ r.t ≤ 14) ∧ (1 ≤ r.h ∧ r.h ≤ 15 - r.t) ∧ (0 ≤ r.l ∧ r.l ≤ 31) ∧ (1 ≤ r.w ∧ r.w ≤ 32 - r.l) ∧ 1 ≤ r.al ∧ r.al ≤ 3
def dfl : Rg := ⟨[], 11, 4, 0, 32, 2, true⟩
def usabl (r : Rg) : Prop := r = dfl ∨ rgOk r
def rgsOk (l : List Rg) : Prop := l.length ≤ 16 ∧ ∀ j, j < l.length → rgOk l[j]! ∧ (0 < j → l[j]!.nm ≠ l[j - 1]!.nm ∧ Op.bytesLess (strB l[j]!.nm).toList (strB l[j - 1]!.nm).toList = false)
def findR (l : List Rg) (n : List UInt8) : Option Rg := if n = [] then some dfl else l.find? fun r => decide (r.nm = n)
def rowOk (l : List SR) : Prop := checkF l = 0 ∧ plainF l ≠ [] ∧ (plainF l)[0]! ≠ 32 ∧ (plainF l)[(plainF l).length - 1]! ≠ 32 ∧ Go.Lib.contains (plainF l) [32, 32] = false ∧ lenF l ≤ 32
def plcOk (r : Rg) (l : List Int) : Prop := usabl r ∧ (l.length : Int) ≤ r.h ∧ ∀ n ∈ l, 0 ≤ n ∧ n ≤ r.w
def evRest (R : List Rg) (rg : List UInt8) (kd : Int) (sp : List UInt8) (L : List (List SR)) : Prop :=
  (1 ≤ kd ∧ kd ≤ 4) ∧ (sp = [] ∨ nameF sp = true) ∧ (1 ≤ L.length ∧ L.length ≤ 4) ∧ (∀ x ∈ L, rowOk x) ∧ ∃ r, findR R rg = some r ∧ plcOk r (L.map lenF)
def evOk (R : List Rg) (e : Ev) : Prop := (1 ≤ e.id ∧ e.id ≤ 1099511627776) ∧ (0 ≤ e.i ∧ e.i < e.o ∧ e.o ≤ 5184000) ∧ evRest R e.rg e.kd e.sp e.rows
def lessE (a b : Ev) : Prop := a.i < b.i ∨ (a.i = b.i ∧ a.id < b.id)
/-- the length of an event's text -/
def lenS : List Int → Int → Int
  | [], a => a
  | n :: r, a => if n < 0 then -1 else lenS r (a + n)
def lenE (L : List (List SR)) : Int := lenS (L.map lenF) (max ((L.length : Int) - 1) 0)
def hdrOk (d : Dc) : Prop := vldB (strB d.ti) = true ∧ d.ti.length ≤ 400 ∧ (d.la = [] ∨ nameF d.la = true) ∧ 0 < tk d.rt ∧ (d.dr = true → cdr d.rt = true) ∧ 0 ≤ d.last ∧ d.last ≤ 1099511627776
def evsOk (d : Dc) : Prop := d.E.length ≤ 400 ∧ ∀ j, j < d.E.length → evOk d.R d.E[j]! ∧ d.E[j]!.id ≤ d.last ∧ (0 < j → lessE d.E[j - 1]! d.E[j]!) ∧ ∀ k, k < j → d.E[k]!.id ≠ d.E[j]!.id
def ancOk (last : Int) (E : List Ev) (c : Cm) : Prop := (1 ≤ c.ev ∧ c.ev ≤ last) ∧ (c.lo = true → c.fr = 0 ∧ c.to = 0) ∧ (c.lo = false → ∃ k, k < E.length ∧ E[k]!.id = c.ev ∧ 0 ≤ c.fr ∧ c.fr < c.to ∧ c.to ≤ lenE E[k]!.rows)
def cmOk (last : Int) (E : List Ev) (C : List Cm) (j : Nat) : Prop :=
  (1 ≤ C[j]!.id ∧ C[j]!.id ≤ last) ∧ (0 < j → C[j - 1]!.id < C[j]!.id) ∧ (∀ k, k < E.length → E[k]!.id ≠ C[j]!.id) ∧ ancOk last E C[j]! ∧ nameF C[j]!.au = true ∧ vldB (strB C[j]!.tx) = true ∧ C[j]!.tx ≠ [] ∧ C[j]!.tx.length ≤ 400
def cmsOk (d : Dc) : Prop := d.C.length ≤ 64 ∧ ∀ j, j < d.C.length → cmOk d.last d.E d.C j
def dcOk (d : Dc) : Prop := hdrOk d ∧ rgsOk d.R ∧ evsOk d ∧ cmsOk d

/-! ### another rate -/
/-- the comments that are not lost, with new numbers -/
def kc (f : Int → Int) : Int → List Cm → List Cm
  | _, [] => []
  | k, c :: r => if c.lo = true then kc f k r else { c with id := k + 1, ev := f c.ev } :: kc f (k + 1) r
theorem kc_len (f : Int → Int) : ∀ (C : List Cm) (k : Int), (kc f k C).length ≤ C.length
  | [], k => Nat.le_refl _
  | c :: r, k => by
    simp only [kc]
    split
    · have := kc_len f r k; simp only [List.length_cons]; omega
    · have := kc_len f r (k + 1); simp only [List.length_cons]; omega
theorem kc_at (f : Int → Int) : ∀ (C : List Cm) (k : Int) (j : Nat), j < (kc f k C).length → ∃ c ∈ C, c.lo = false ∧ (kc f k C)[j]! = { c with id := k + j + 1, ev := f c.ev }
  | [], k, j, h => by simp [kc] at h
  | c :: r, k, j, h => by
    simp only [kc] at h ⊢
    split at h
    · rename_i hl
      rw [if_pos hl]
      obtain ⟨c', h1, h2⟩ := kc_at f r k j h
      exact ⟨c', List.mem_cons_of_mem _ h1, h2⟩
    · rename_i hl
      rw [if_neg hl]
      cases j with
      | zero => exact ⟨c, List.mem_cons_self, by simpa using hl, by simp⟩
      | succ j =>
        obtain ⟨c', h1, h2, h3⟩ := kc_at f r (k + 1) j (by simpa using h)
        refine ⟨c', List.mem_cons_of_mem _ h1, h2, ?_⟩
        rw [List.getElem!_cons_succ, h3]
        simp only [Cm.mk.injEq, and_true]
        omega
theorem kc_snoc (f : Int → Int) (c : Cm) : ∀ (C : List Cm) (k : Int), kc f k (C ++ [c]) = kc f k C ++ (if c.lo = true then [] else [{ c with id := k + (kc f k C).length + 1, ev := f c.ev }])
  | [], k => by
    simp only [List.nil_append, kc, List.length_nil]
    split <;> simp
  | d :: r, k => by
    simp only [List.cons_append, kc]
    split
    · exact kc_snoc f c r k
    · rw [kc_snoc f c r (k + 1)]
      simp only [List.cons_append, List.length_cons]
      congr 2
      split
      · rfl
      · simp only [List.cons.injEq, Cm.mk.injEq, and_true]
        omega
/-- an event in another rate -/
structure EvTo (a b : Int) (j : Nat) (e e' : Ev) : Prop where
  id : e'.id = j + 1
  sp : SpOk a b e.i e.o e'.i e'.o
  rg : e'.rg = e.rg
  kd : e'.kd = e.kd
  sk : e'.sp = e.sp
  rows : e'.rows = e.rows
/-- a document in another rate, with the times kept -/
structure DcTo (d : Dc) (to : Int) (drop : Bool) (x : Dc) : Prop where
  ti : x.ti = d.ti
  la : x.la = d.la
  rt : x.rt = to
  dr : x.dr = drop
  R : x.R = d.R
  len : x.E.length = d.E.length
  ev : ∀ j, j < d.E.length → EvTo d.rt to j d.E[j]! x.E[j]!
  cm : ∃ f : Int → Int, (∀ k, k < d.E.length → f d.E[k]!.id = k + 1) ∧ x.C = kc f d.E.length d.C
  last : x.last = d.E.length + x.C.length
theorem to_ok {d x : Dc} {to : Int} {drop : Bool} (h : dcOk d) (k : DcTo d to drop x) (ht : 0 < tk to) (hd : drop = true → cdr to = true) : dcOk x := by
  obtain ⟨h1, h2, h3, h4⟩ := h
  obtain ⟨f, hf, hC⟩ := k.cm
  have hlen : x.C.length ≤ 64 := by rw [hC]; exact Nat.le_trans (kc_len f _ _) h4.1
  have hl := k.last
  have h31 := h3.1
  refine ⟨⟨by rw [k.ti]; exact h1.1, by rw [k.ti]; exact h1.2.1, by rw [k.la]; exact h1.2.2.1, by rw [k.rt]; exact ht, by rw [k.dr, k.rt]; exact hd, by omega, by omega⟩, by rw [k.R]; exact h2, ⟨by rw [k.len]; exact h31, fun j hj => ?_⟩, hlen, fun j hj => ?_⟩
  · rw [k.len] at hj
    have e := k.ev j hj
    obtain ⟨a1, a2, a3, a4⟩ := h3.2 j hj
    refine ⟨⟨⟨by rw [e.id]; omega, by rw [e.id]; omega⟩, e.sp.new, ?_⟩, by rw [e.id]; omega, fun h0 => ?_, fun m hm => ?_⟩
    · rw [k.R, e.rg, e.kd, e.sk, e.rows]; exact a1.2.2
    · have e' := k.ev (j - 1) (by omega)
      have hmono := e'.sp.mono e.sp (by rcases a3 h0 with h | h <;> omega)
      unfold lessE
      rw [e.id, e'.id]
      omega
    · rw [e.id, (k.ev m (by omega)).id]; omega
  · have hj' : j < (kc f d.E.length d.C).length := by rw [← hC]; exact hj
    obtain ⟨c, hc1, hc2, hc3⟩ := kc_at f d.C _ j hj'
    obtain ⟨m, hm, rfl⟩ := List.getElem_of_mem hc1
    obtain ⟨b1, b2, b3, b4, b5, b6, b7, b8⟩ := h4.2 m hm
    rw [getElem!_pos d.C m hm] at b4 b5 b6 b7 b8
    have hx : x.C[j]! = { d.C[m] with id := d.E.length + j + 1, ev := f d.C[m].ev } := by rw [hC, hc3]
    obtain ⟨q, q1, q2, q3, q4, q5⟩ := b4.2.2 hc2
    have hfq := hf q q1
    rw [q2] at hfq
    unfold cmOk
    rw [hx]
    refine ⟨⟨by simp only; omega, by simp only; omega⟩, fun h0 => ?_, fun p hp => ?_, ⟨⟨by simp only; omega, by simp only; omega⟩, fun hh => ?_, fun _ => ⟨q, by rw [k.len]; exact q1, ?_, q3, q4, ?_⟩⟩, b5, b6, b7, b8⟩
    · obtain ⟨c', _, _, hc'⟩ := kc_at f d.C d.E.length (j - 1) (by omega)
      rw [hC, hc']
      simp only
      omega
    · rw [(k.ev p (by rw [← k.len]; exact hp)).id]
      rw [k.len] at hp
      simp only
      omega
    · simp only [hc2] at hh; cases hh
    · rw [(k.ev q q1).id]; simp only; omega
    · rw [(k.ev q q1).rows]; exact q5
end Go.Gh
