/-
  Difference constraints, plainly: chains, closed chains below 0, least sums.
-/
import Derived.Test.YtfcbdkbdalbjmaaDgF
namespace Go.Gh
set_option linter.unusedSimpArgs false
set_option linter.unusedVariables false

/-! ### sums that are least among chains of a length -/
def pre1 (prev : List Int) (d : List Int) (e : Ed) : List Int := if gx prev e.j ≠ far ∧ e.c + gx prev e.j < gx d e.i then d.set e.i (e.c + gx prev e.j) else d
def preRow (n : Nat) (es : List Ed) (prev : List Int) : List Int := es.foldl (pre1 prev) (List.replicate n far)
def preRows (n : Nat) (es : List Ed) (dst : Nat) : Nat → List Int
  | 0 => (List.replicate n far).set dst 0
  | r + 1 => preRow n es (preRows n es dst r)
def post1 (prev : List Int) (d : List Int) (e : Ed) : List Int := if gx prev e.i ≠ far ∧ gx prev e.i + e.c < gx d e.j then d.set e.j (gx prev e.i + e.c) else d
def postRow (n : Nat) (es : List Ed) (prev : List Int) : List Int := es.foldl (post1 prev) (List.replicate n far)
def postRows (n : Nat) (es : List Ed) (s : Nat) : Nat → List Int
  | 0 => (List.replicate n far).set s 0
  | r + 1 => postRow n es (postRows n es s r)
/-- far, or at most t 2^40 in size -/
def Sml (t : Nat) (x : List Int) : Prop := ∀ v ∈ x, v = far ∨ (-(t : Int) * 1099511627776 ≤ v ∧ v ≤ (t : Int) * 1099511627776)
theorem Sml.get {t : Nat} {x : List Int} (h : Sml t x) (i : Nat) : gx x i = far ∨ (-(t : Int) * 1099511627776 ≤ gx x i ∧ gx x i ≤ (t : Int) * 1099511627776) := by
  unfold gx
  rw [List.getD_eq_getElem?_getD]
  cases hx : x[i]? with
  | none => right; simp; omega
  | some v => exact h v (List.mem_of_getElem? hx)
theorem Sml.mono {t t' : Nat} {x : List Int} (h : Sml t x) (ht : t ≤ t') : Sml t' x := fun v hv => by
  rcases h v hv with h1 | h1
  · exact .inl h1
  · right; constructor <;> omega
theorem Sml.far_ (t n : Nat) : Sml t (List.replicate n far) := fun v hv => .inl (List.eq_of_mem_replicate hv)
theorem Sml.set_ {t : Nat} {x : List Int} (h : Sml t x) (i : Nat) {v : Int} (hv : -(t : Int) * 1099511627776 ≤ v ∧ v ≤ (t : Int) * 1099511627776) : Sml t (x.set i v) := by
  intro u hu
  rcases List.mem_or_eq_of_mem_set hu with hu | rfl
  · exact h u hu
  · exact .inr hv
def Csm (es : List Ed) : Prop := ∀ e ∈ es, -1099511627776 ≤ e.c ∧ e.c ≤ 1099511627776
theorem pre1_sml {t : Nat} {prev d : List Int} {e : Ed} (hp : Sml t prev) (hd : Sml (t + 1) d) (h0 : -1099511627776 ≤ e.c) (h1 : e.c ≤ 1099511627776) : Sml (t + 1) (pre1 prev d e) := by
  unfold pre1
  split
  · rename_i h
    refine hd.set_ _ ?_
    rcases hp.get e.j with h2 | h2
    · exact absurd h2 h.1
    · constructor <;> omega
  · exact hd
theorem post1_sml {t : Nat} {prev d : List Int} {e : Ed} (hp : Sml t prev) (hd : Sml (t + 1) d) (h0 : -1099511627776 ≤ e.c) (h1 : e.c ≤ 1099511627776) : Sml (t + 1) (post1 prev d e) := by
  unfold post1
  split
  · rename_i h
    refine hd.set_ _ ?_
    rcases hp.get e.i with h2 | h2
    · exact absurd h2 h.1
    · constructor <;> omega
  · exact hd
theorem pre1_len (prev d : List Int) (e : Ed) : (pre1 prev d e).length = d.length := by unfold pre1; split <;> simp
theorem post1_len (prev d : List Int) (e : Ed) : (post1 prev d e).length = d.length := by unfold post1; split <;> simp
theorem foldl_pre_sml {t : Nat} {prev : List Int} (hp : Sml t prev) : ∀ (es : List Ed) (d : List Int), Csm es → Sml (t + 1) d → Sml (t + 1) (es.foldl (pre1 prev) d)
  | [], _, _, h => h
  | e :: es, d, hc, h => foldl_pre_sml hp es _ (fun f hf => hc f (List.mem_cons_of_mem _ hf)) (pre1_sml hp h (hc e (by simp)).1 (hc e (by simp)).2)
theorem foldl_post_sml {t : Nat} {prev : List Int} (hp : Sml t prev) : ∀ (es : List Ed) (d : List Int), Csm es → Sml (t + 1) d → Sml (t + 1) (es.foldl (post1 prev) d)
  | [], _, _, h => h
  | e :: es, d, hc, h => foldl_post_sml hp es _ (fun f hf => hc f (List.mem_cons_of_mem _ hf)) (post1_sml hp h (hc e (by simp)).1 (hc e (by simp)).2)
theorem foldl_pre_len (prev : List Int) : ∀ (es : List Ed) (d : List Int), (es.foldl (pre1 prev) d).length = d.length
  | [], _ => rfl
  | e :: es, d => by show (es.foldl (pre1 prev) (pre1 prev d e)).length = _; rw [foldl_pre_len prev es, pre1_len]
theorem foldl_post_len (prev : List Int) : ∀ (es : List Ed) (d : List Int), (es.foldl (post1 prev) d).length = d.length
  | [], _ => rfl
  | e :: es, d => by show (es.foldl (post1 prev) (post1 prev d e)).length = _; rw [foldl_post_len prev es, post1_len]
theorem preRows_len (n : Nat) (es : List Ed) (dst : Nat) : ∀ r, (preRows n es dst r).length = n
  | 0 => by simp [preRows]
  | r + 1 => by show (preRow n es _).length = n; unfold preRow; rw [foldl_pre_len]; simp
theorem postRows_len (n : Nat) (es : List Ed) (s : Nat) : ∀ r, (postRows n es s r).length = n
  | 0 => by simp [postRows]
  | r + 1 => by show (postRow n es _).length = n; unfold postRow; rw [foldl_post_len]; simp
theorem preRows_sml (n : Nat) (es : List Ed) (dst : Nat) (hc : Csm es) : ∀ r, Sml r (preRows n es dst r)
  | 0 => (Sml.far_ 0 n).set_ dst (by omega)
  | r + 1 => foldl_pre_sml (preRows_sml n es dst hc r) es _ hc (Sml.far_ _ n)
theorem postRows_sml (n : Nat) (es : List Ed) (s : Nat) (hc : Csm es) : ∀ r, Sml r (postRows n es s r)
  | 0 => (Sml.far_ 0 n).set_ s (by omega)
  | r + 1 => foldl_post_sml (postRows_sml n es s hc r) es _ hc (Sml.far_ _ n)
theorem gx_set (x : List Int) (i : Nat) (v : Int) (j : Nat) : gx (x.set i v) j = if i = j ∧ i < x.length then v else gx x j := by
  unfold gx
  rw [List.getD_eq_getElem?_getD, List.getD_eq_getElem?_getD, List.getElem?_set]
  by_cases h : i = j
  · subst h
    by_cases h2 : i < x.length
    · simp [h2]
    · simp [h2]
  · simp [h]
theorem gx_rep (n : Nat) (v : Int) {j : Nat} (h : j < n) : gx (List.replicate n v) j = v := by
  unfold gx
  simp [List.getD_eq_getElem?_getD, List.getElem?_replicate, h]

/-! ### chains: lists of edges, one behind the other -/
def Ch : Nat → List Ed → Nat → Prop
  | u, [], v => u = v
  | u, e :: p, v => e.i = u ∧ Ch e.j p v
def Su (p : List Ed) : Int := (p.map (·.c)).sum
theorem Su_nil : Su [] = 0 := rfl
theorem Su_cons (e : Ed) (p : List Ed) : Su (e :: p) = e.c + Su p := by simp [Su]
theorem Su_app (p q : List Ed) : Su (p ++ q) = Su p + Su q := by simp [Su, List.sum_append]
theorem Ch_app {p q : List Ed} {u v : Nat} : Ch u (p ++ q) v ↔ ∃ m, Ch u p m ∧ Ch m q v := by
  induction p generalizing u with
  | nil => simp [Ch]
  | cons e p ih => simp only [List.cons_append, Ch, ih]; constructor
                   · rintro ⟨h, m, k⟩; exact ⟨m, ⟨h, k.1⟩, k.2⟩
                   · rintro ⟨m, ⟨h, k⟩, k2⟩; exact ⟨h, m, k, k2⟩
def In (es p : List Ed) : Prop := ∀ e ∈ p, e ∈ es
theorem In.app {es p q : List Ed} : In es (p ++ q) ↔ In es p ∧ In es q := by
  unfold In
  constructor
  · intro h; exact ⟨fun e he => h e (by simp [he]), fun e he => h e (by simp [he])⟩
  · rintro ⟨h, k⟩ e he
    rcases List.mem_append.1 he with he | he
    · exact h e he
    · exact k e he
theorem In.cons {es p : List Ed} {e : Ed} : In es (e :: p) ↔ e ∈ es ∧ In es p := by
  unfold In; simp
def Nds (n : Nat) (es : List Ed) : Prop := ∀ e ∈ es, e.i < n ∧ e.j < n
theorem Su_small {es : List Ed} (hc : Csm es) : ∀ {p : List Ed}, In es p → -((p.length : Int) * 1099511627776) ≤ Su p ∧ Su p ≤ (p.length : Int) * 1099511627776
  | [], _ => by simp [Su]
  | e :: p, h => by
    obtain ⟨h1, h2⟩ := In.cons.1 h
    have := Su_small hc h2
    have := hc e h1
    rw [Su_cons, List.length_cons]
    constructor <;> omega
/-- the row of the step: no chain is less, and it is a chain's -/
theorem foldl_pre_le {n t : Nat} {prev : List Int} (hp : Sml t prev) (ht : t + 1 ≤ 1000) : ∀ (es : List Ed) (d : List Int), Csm es → Nds n es → d.length = n →
    (∀ u, gx (es.foldl (pre1 prev) d) u ≤ gx d u) ∧ (∀ e ∈ es, gx prev e.j ≠ far → gx (es.foldl (pre1 prev) d) e.i ≤ e.c + gx prev e.j) ∧
    (∀ u, gx (es.foldl (pre1 prev) d) u = gx d u ∨ ∃ e ∈ es, e.i = u ∧ gx prev e.j ≠ far ∧ gx (es.foldl (pre1 prev) d) u = e.c + gx prev e.j)
  | [], d, _, _, _ => ⟨fun u => Int.le_refl _, by simp, fun u => .inl rfl⟩
  | e :: es, d, hc, hn, hd => by
    obtain ⟨h1, h2, h3⟩ := foldl_pre_le hp ht es (pre1 prev d e) (fun f hf => hc f (by simp [hf])) (fun f hf => hn f (by simp [hf])) (by rw [pre1_len, hd])
    rw [List.foldl_cons]
    have hle : ∀ u, gx (pre1 prev d e) u ≤ gx d u := by
      intro u
      unfold pre1
      split
      · rename_i h
        rw [gx_set]
        split
        · rename_i h4; rw [← h4.1]; exact Int.le_of_lt h.2
        · exact Int.le_refl _
      · exact Int.le_refl _
    have hi := (hn e (by simp)).1
    refine ⟨fun u => Int.le_trans (h1 u) (hle u), fun f hf hne => ?_, fun u => ?_⟩
    · rcases List.mem_cons.1 hf with rfl | hf
      · refine Int.le_trans (h1 _) ?_
        unfold pre1
        split
        · rw [gx_set, if_pos ⟨rfl, by omega⟩]; exact Int.le_refl _
        · rename_i h
          have : ¬ f.c + gx prev f.j < gx d f.i := fun hh => h ⟨hne, hh⟩
          omega
      · exact h2 f hf hne
    · rcases h3 u with h | ⟨f, hf, h⟩
      · rw [h]
        unfold pre1
        split
        · rename_i hh
          rw [gx_set]
          split
          · rename_i h4
            exact .inr ⟨e, by simp, h4.1, hh.1, rfl⟩
          · exact .inl rfl
        · exact .inl rfl
      · exact .inr ⟨f, by simp [hf], h⟩
theorem preRows_spec {n : Nat} {es : List Ed} (hc : Csm es) (hn : Nds n es) {dst : Nat} (hd : dst < n) : ∀ r, r ≤ 900 → ∀ u, u < n →
    (∀ p, In es p → p.length = r → Ch u p dst → gx (preRows n es dst r) u ≤ Su p ∧ gx (preRows n es dst r) u ≠ far) ∧
    (gx (preRows n es dst r) u ≠ far → ∃ p, In es p ∧ p.length = r ∧ Ch u p dst ∧ Su p = gx (preRows n es dst r) u)
  | 0, _, u, hu => by
    have e : gx (preRows n es dst 0) u = if dst = u then 0 else far := by
      show gx ((List.replicate n far).set dst 0) u = _
      rw [gx_set, List.length_replicate, gx_rep n far hu]
      by_cases h : dst = u
      · rw [if_pos ⟨h, by omega⟩, if_pos h]
      · rw [if_neg (fun k => h k.1), if_neg h]
    rw [e]
    refine ⟨fun p hp hl hch => ?_, fun h => ?_⟩
    · have := List.eq_nil_of_length_eq_zero hl
      subst this
      rw [if_pos (show dst = u from hch.symm)]
      exact ⟨by rw [Su_nil]; exact Int.le_refl _, by simp [far]⟩
    · by_cases h2 : dst = u
      · rw [if_pos h2]; exact ⟨[], by simp [In], rfl, h2.symm, rfl⟩
      · rw [if_neg h2] at h; exact absurd rfl h
  | r + 1, hr, u, hu => by
    have hs := preRows_sml n es dst hc r
    have ih := preRows_spec hc hn hd r (by omega)
    obtain ⟨h1, h2, h3⟩ := foldl_pre_le hs (by omega) es (List.replicate n far) hc hn (by simp)
    have hb := preRows_sml n es dst hc (r + 1)
    refine ⟨fun p hp hl hch => ?_, fun h => ?_⟩
    · obtain ⟨e, p, rfl⟩ : ∃ e q, p = e :: q := by
        cases p with
        | nil => simp at hl
        | cons e q => exact ⟨e, q, rfl⟩
      obtain ⟨he, hp⟩ := In.cons.1 hp
      obtain ⟨k1, k2⟩ := hch
      obtain ⟨k3, k4⟩ := (ih e.j (hn e he).2).1 p hp (by simpa using hl) k2
      have := h2 e he k4
      rw [k1] at this
      have hh : gx (preRows n es dst (r + 1)) u ≤ e.c + gx (preRows n es dst r) e.j := this
      refine ⟨by rw [Su_cons]; omega, fun hf => ?_⟩
      rw [hf] at hh
      have := (hc e he).2
      rcases hs.get e.j with h5 | h5
      · exact k4 h5
      · unfold far at hh; omega
    · rcases h3 u with h4 | ⟨e, he, k1, k2, k3⟩
      · rw [gx_rep n far hu] at h4
        exact absurd h4 h
      · obtain ⟨p, p1, p2, p3, p4⟩ := (ih e.j (hn e he).2).2 k2
        refine ⟨e :: p, In.cons.2 ⟨he, p1⟩, by simp [p2], ⟨k1, p3⟩, ?_⟩
        rw [Su_cons, p4]; exact k3.symm
/-- .. from behind -/
def flip (e : Ed) : Ed := ⟨e.j, e.i, e.c⟩
theorem post_pre (prev d : List Int) (e : Ed) : post1 prev d e = pre1 prev d (flip e) := by
  unfold post1 pre1 flip
  simp only [Int.add_comm]
theorem postRows_pre (n : Nat) (es : List Ed) (s : Nat) : ∀ r, postRows n es s r = preRows n (es.map flip) s r
  | 0 => rfl
  | r + 1 => by
    show es.foldl (post1 _) _ = (es.map flip).foldl (pre1 _) _
    rw [List.foldl_map, postRows_pre n es s r]
    congr 1
    funext d e
    exact post_pre _ _ _
theorem flip_flip (e : Ed) : flip (flip e) = e := rfl
theorem Ch_flip : ∀ {p : List Ed} {u v : Nat}, Ch u p v → Ch v (p.reverse.map flip) u
  | [], u, v, h => h.symm
  | e :: p, u, v, ⟨h1, h2⟩ => by
    rw [List.reverse_cons, List.map_append]
    exact Ch_app.2 ⟨e.j, Ch_flip h2, rfl, h1⟩
theorem Su_flip (p : List Ed) : Su (p.reverse.map flip) = Su p := by
  induction p with
  | nil => rfl
  | cons e p ih => rw [List.reverse_cons, List.map_append, Su_app, ih, Su_cons]; show Su p + (e.c + 0) = _; omega
theorem In_flip {es p : List Ed} (h : In es p) : In (es.map flip) (p.reverse.map flip) := by
  intro e he
  obtain ⟨f, hf, rfl⟩ := List.mem_map.1 he
  exact List.mem_map.2 ⟨f, h f (by simpa using hf), rfl⟩
theorem postRows_spec {n : Nat} {es : List Ed} (hc : Csm es) (hn : Nds n es) {s : Nat} (hs : s < n) (r : Nat) (hr : r ≤ 900) {v : Nat} (hv : v < n) :
    (∀ p, In es p → p.length = r → Ch s p v → gx (postRows n es s r) v ≤ Su p ∧ gx (postRows n es s r) v ≠ far) ∧
    (gx (postRows n es s r) v ≠ far → ∃ p, In es p ∧ p.length = r ∧ Ch s p v ∧ Su p = gx (postRows n es s r) v) := by
  rw [postRows_pre]
  have hc' : Csm (es.map flip) := by
    intro e he
    obtain ⟨f, hf, rfl⟩ := List.mem_map.1 he
    exact hc f hf
  have hn' : Nds n (es.map flip) := by
    intro e he
    obtain ⟨f, hf, rfl⟩ := List.mem_map.1 he
    exact ⟨(hn f hf).2, (hn f hf).1⟩
  obtain ⟨h1, h2⟩ := preRows_spec hc' hn' hs r hr v hv
  refine ⟨fun p hp hl hch => ?_, fun h => ?_⟩
  · have := h1 _ (In_flip hp) (by simp [hl]) (Ch_flip hch)
    rwa [Su_flip] at this
  · obtain ⟨p, p1, p2, p3, p4⟩ := h2 h
    refine ⟨p.reverse.map flip, ?_, by simp [p2], Ch_flip p3, by rw [Su_flip, p4]⟩
    have := In_flip p1
    have e : (es.map flip).map flip = es := by
      rw [List.map_map]; exact (List.map_congr_left fun a _ => flip_flip a).trans (List.map_id es)
    rwa [e] at this

/-! ### closed chains below 0 -/
def Neg (es p : List Ed) : Prop := p ≠ [] ∧ In es p ∧ (∃ u, Ch u p u) ∧ Su p < 0
theorem dup_split {α : Type} {f : α → Nat} : ∀ {l : List α}, ¬ (l.map f).Nodup → ∃ a x b y c, l = a ++ x :: b ++ y :: c ∧ f x = f y
  | [], h => absurd List.nodup_nil h
  | x :: l, h => by
    rw [List.map_cons, List.nodup_cons] at h
    by_cases hm : f x ∈ l.map f
    · obtain ⟨y, hy, e⟩ := List.mem_map.1 hm
      obtain ⟨b, c, rfl⟩ := List.append_of_mem hy
      exact ⟨[], x, b, y, c, rfl, e.symm⟩
    · obtain ⟨a, x', b, y, c, e, k⟩ := dup_split (fun hh => h ⟨hm, hh⟩)
      exact ⟨x :: a, x', b, y, c, by rw [e]; rfl, k⟩
theorem nodup_sub {α : Type} [BEq α] [LawfulBEq α] : ∀ {l m : List α}, l.Nodup → (∀ x ∈ l, x ∈ m) → l.length ≤ m.length
  | [], m, _, _ => Nat.zero_le _
  | x :: l, m, hn, hs => by
    obtain ⟨h1, h2⟩ := List.nodup_cons.1 hn
    have hx := hs x (by simp)
    have := nodup_sub (l := l) (m := m.erase x) h2 fun y hy => (List.mem_erase_of_ne (by rintro rfl; exact h1 hy)).2 (hs y (by simp [hy]))
    rw [List.length_erase_of_mem hx] at this
    have := List.length_pos_of_mem hx
    simp only [List.length_cons]; omega
theorem nodup_lt {n : Nat} {l : List Nat} (h : l.Nodup) (hl : ∀ x ∈ l, x < n) : l.length ≤ n := by
  have := nodup_sub (m := List.range n) h fun x hx => by simpa using hl x hx
  simpa using this
/-- a closed chain below 0 holds one that passes no variable twice -/
theorem Neg.simple {es : List Ed} : ∀ (k : Nat) (p : List Ed), p.length ≤ k → Neg es p → ∃ q, Neg es q ∧ (∀ e ∈ q, e ∈ p) ∧ (q.map (·.i)).Nodup ∧ q.length ≤ p.length
  | 0, p, hk, h => absurd (List.eq_nil_of_length_eq_zero (by omega)) h.1
  | k + 1, p, hk, h => by
    by_cases hd : (p.map (·.i)).Nodup
    · exact ⟨p, h, fun e he => he, hd, Nat.le_refl _⟩
    · obtain ⟨a, x, b, y, c, rfl, hxy⟩ := dup_split hd
      obtain ⟨h1, h2, ⟨u, h3⟩, h4⟩ := h
      rw [List.append_assoc] at h2 h3 h4
      obtain ⟨i1, i2⟩ := In.app.1 h2
      obtain ⟨i2, i3⟩ := In.app.1 (show In es ((x :: b) ++ (y :: c)) from i2)
      obtain ⟨m, c1, c2⟩ := Ch_app.1 h3
      obtain ⟨m2, c2, c3⟩ := Ch_app.1 (show Ch m ((x :: b) ++ (y :: c)) u from c2)
      have e1 : x.i = m := c2.1
      have e2 : y.i = m2 := c3.1
      have hm : m = m2 := by rw [← e1, ← e2]; exact hxy
      subst hm
      rw [Su_app, show x :: b ++ y :: c = (x :: b) ++ (y :: c) from rfl, Su_app] at h4
      by_cases hb : Su (x :: b) < 0
      · obtain ⟨q, q1, q2, q3, q4⟩ := Neg.simple k (x :: b) (by simp at hk ⊢; omega) ⟨by simp, i2, ⟨m, c2⟩, hb⟩
        exact ⟨q, q1, fun e he => by have := q2 e he; simp at this ⊢; rcases this with h | h <;> simp [h], q3, by simp at q4 ⊢; omega⟩
      · obtain ⟨q, q1, q2, q3, q4⟩ := Neg.simple k (a ++ y :: c) (by simp at hk ⊢; omega) ⟨by simp, In.app.2 ⟨i1, i3⟩, ⟨u, Ch_app.2 ⟨m, c1, c3⟩⟩, by rw [Su_app]; omega⟩
        exact ⟨q, q1, fun e he => by have := q2 e he; simp at this ⊢; rcases this with h | h | h <;> simp [h], q3, by simp at q4 ⊢; omega⟩
/-- where no closed chain is below 0, a chain can be made short -/
theorem short_chain {n : Nat} {es : List Ed} (hn : Nds n es) (h0 : ∀ p, ¬ Neg es p) : ∀ (k : Nat) (p : List Ed), p.length ≤ k → In es p → ∀ u v, u < n → Ch u p v → ∃ q, In es q ∧ Ch u q v ∧ Su q ≤ Su p ∧ q.length + 1 ≤ n
  | k, p, hk, hp, u, v, hu, hch => by
    by_cases hl : p.length + 1 ≤ n
    · exact ⟨p, hp, hch, Int.le_refl _, hl⟩
    · cases k with
      | zero => omega
      | succ k =>
        -- a dummy at the end: its beginning is v
        have hd : ¬ ((p ++ [(⟨v, v, 0⟩ : Ed)]).map (·.i)).Nodup := by
          intro hnd
          have := nodup_lt hnd (n := n) (by
            intro x hx
            obtain ⟨e, he, rfl⟩ := List.mem_map.1 hx
            rcases List.mem_append.1 he with he | he
            · exact (hn e (hp e he)).1
            · obtain rfl := List.mem_singleton.1 he
              show v < n
              rcases List.eq_nil_or_concat p with rfl | ⟨p', e', rfl⟩
              · have : u = v := hch
                omega
              · rw [List.concat_eq_append] at hch hp
                obtain ⟨m, _, h2⟩ := Ch_app.1 hch
                have : e'.j = v := h2.2
                rw [← this]; exact (hn e' (hp e' (by simp))).2)
          simp at this; omega
        obtain ⟨a, x, b, y, c, e, hxy⟩ := dup_split hd
        -- x :: b is closed
        have hcl : ∃ m c', Ch u a m ∧ Ch m (x :: b) m ∧ Ch m c' v ∧ p = a ++ (x :: b) ++ c' := by
          rcases List.eq_nil_or_concat c with rfl | ⟨c0, z, rfl⟩
          · have e' : p ++ [(⟨v, v, 0⟩ : Ed)] = (a ++ x :: b) ++ [y] := e
            obtain ⟨rfl, e2⟩ := List.append_inj' e' rfl
            simp only [List.cons.injEq, and_true] at e2
            obtain ⟨m, c1, c2⟩ := Ch_app.1 hch
            have h1 : x.i = m := c2.1
            have h2 : m = v := by rw [← h1, hxy, ← e2]
            subst h2
            exact ⟨m, [], c1, c2, rfl, by simp⟩
          · rw [List.concat_eq_append] at e
            have e' : p ++ [(⟨v, v, 0⟩ : Ed)] = (a ++ (x :: b) ++ (y :: c0)) ++ [z] := by rw [e]; simp
            obtain ⟨rfl, e2⟩ := List.append_inj' e' rfl
            obtain ⟨m2, c12, c3⟩ := Ch_app.1 hch
            obtain ⟨m, c1, c2⟩ := Ch_app.1 c12
            have h1 : x.i = m := c2.1
            have h2 : y.i = m2 := c3.1
            have : m = m2 := by rw [← h1, ← h2]; exact hxy
            subst this
            exact ⟨m, y :: c0, c1, c2, c3, rfl⟩
        obtain ⟨m, c', c1, c2, c3, rfl⟩ := hcl
        obtain ⟨i1, i3⟩ := In.app.1 hp
        obtain ⟨i1, i2⟩ := In.app.1 i1
        have hs : 0 ≤ Su (x :: b) := by
          have := h0 (x :: b)
          by_cases hlt : Su (x :: b) < 0
          · exact absurd ⟨by simp, i2, ⟨m, c2⟩, hlt⟩ this
          · omega
        obtain ⟨q, q1, q2, q3, q4⟩ := short_chain hn h0 k (a ++ c') (by simp at hk ⊢; omega) (In.app.2 ⟨i1, i3⟩) u v hu (Ch_app.2 ⟨m, c1, c3⟩)
        refine ⟨q, q1, q2, ?_, q4⟩
        rw [Su_app] at q3 ⊢
        rw [Su_app]
        omega

/-! ### rounds of lowering -/
theorem step_le (x : List Int) (e : Ed) (v : Nat) : gx (step x e) v ≤ gx x v := by
  unfold step
  split
  · rename_i h
    rw [gx_set]
    split
    · rename_i h2; rw [← h2.1]; exact Int.le_of_lt h.2
    · exact Int.le_refl _
  · exact Int.le_refl _
theorem sweep_le : ∀ (es : List Ed) (x : List Int) (v : Nat), gx (sweepX es x) v ≤ gx x v
  | [], x, v => Int.le_refl _
  | e :: es, x, v => Int.le_trans (sweep_le es _ v) (step_le x e v)
def Lo (x : List Int) : Prop := ∀ v, gx x v ≤ far
/-- after a round no bound is broken by what lay there before -/
theorem sweep_met {n : Nat} : ∀ (es : List Ed) (x : List Int), Nds n es → x.length = n → Lo x → ∀ e ∈ es, gx x e.i ≠ far → gx (sweepX es x) e.j ≤ gx x e.i + e.c
  | f :: es, x, hn, hx, hlo, e, he, hne => by
    have hlo' : Lo (step x f) := fun v => Int.le_trans (step_le x f v) (hlo v)
    rcases List.mem_cons.1 he with rfl | he
    · refine Int.le_trans (sweep_le es _ _) ?_
      unfold step
      split
      · rw [gx_set, if_pos ⟨rfl, by have := (hn e (by simp)).2; omega⟩]; exact Int.le_refl _
      · rename_i h
        have : ¬ gx x e.i + e.c < gx x e.j := fun hh => h ⟨hne, hh⟩
        omega
    · have h1 := step_le x f e.i
      have h2 := hlo e.i
      have h3 : gx (step x f) e.i ≠ far := by omega
      have := sweep_met es (step x f) (fun g hg => hn g (by simp [hg])) (by rw [step_len, hx]) hlo' e he h3
      show gx (sweepX es (step x f)) e.j ≤ _
      omega
/-- every value is far or a chain's sum -/
def Real (es : List Ed) (S : Nat → Prop) (x : List Int) : Prop := ∀ v, v < x.length → gx x v = far ∨ ∃ u p, S u ∧ In es p ∧ Ch u p v ∧ Su p = gx x v
theorem step_real {es : List Ed} {S : Nat → Prop} {x : List Int} (h : Real es S x) {e : Ed} (he : e ∈ es) (hi : e.i < x.length) : Real es S (step x e) := by
  intro v hv
  rw [step_len] at hv
  unfold step
  split
  · rename_i hl
    rw [gx_set]
    split
    · rename_i h2
      rcases h e.i hi with h3 | ⟨u, p, h3, h4, h5, h6⟩
      · exact absurd h3 hl.1
      · refine .inr ⟨u, p ++ [e], h3, In.app.2 ⟨h4, by simpa [In] using he⟩, Ch_app.2 ⟨e.i, h5, rfl, h2.1⟩, ?_⟩
        rw [Su_app, h6]; show gx x e.i + (e.c + 0) = _; omega
    · exact h v hv
  · exact h v hv
theorem sweep_real {es0 : List Ed} {S : Nat → Prop} : ∀ (es : List Ed) (x : List Int), (∀ e ∈ es, e ∈ es0 ∧ e.i < x.length) → Real es0 S x → Real es0 S (sweepX es x)
  | [], x, _, h => h
  | e :: es, x, hs, h => sweep_real es (step x e) (fun f hf => by rw [step_len]; exact hs f (by simp [hf])) (step_real h (hs e (by simp)).1 (hs e (by simp)).2)
theorem sweepC_false : ∀ {es : List Ed} {x : List Int}, sweepC es x = false → sweepX es x = x ∧ ∀ e ∈ es, ¬ lowers x e
  | [], x, _ => ⟨rfl, by simp⟩
  | e :: es, x, h => by
    unfold sweepC at h
    rw [Bool.or_eq_false_iff, decide_eq_false_iff_not] at h
    have hs : step x e = x := if_neg h.1
    rw [hs] at h
    obtain ⟨h1, h2⟩ := sweepC_false h.2
    refine ⟨by show sweepX es (step x e) = x; rw [hs, h1], fun f hf => ?_⟩
    rcases List.mem_cons.1 hf with rfl | hf
    · exact h.1
    · exact h2 f hf
def sweepN (es : List Ed) : Nat → List Int → List Int
  | 0, x => x
  | k + 1, x => sweepN es k (sweepX es x)
theorem sweepN_succ (es : List Ed) : ∀ (k : Nat) (x : List Int), sweepN es (k + 1) x = sweepX es (sweepN es k x)
  | 0, x => rfl
  | k + 1, x => sweepN_succ es k (sweepX es x)
theorem sweepN_len (es : List Ed) : ∀ (k : Nat) (x : List Int), (sweepN es k x).length = x.length
  | 0, x => rfl
  | k + 1, x => by show (sweepN es k _).length = _; rw [sweepN_len, sweepX_len]
theorem sweepN_lo {es : List Ed} {x : List Int} (h : Lo x) : ∀ k, Lo (sweepN es k x)
  | 0 => h
  | k + 1 => by rw [sweepN_succ]; exact fun v => Int.le_trans (sweep_le es _ v) (sweepN_lo h k v)
theorem sweepN_real {es : List Ed} {S : Nat → Prop} {x : List Int} (hn : Nds x.length es) (h : Real es S x) : ∀ k, Real es S (sweepN es k x)
  | 0 => h
  | k + 1 => by rw [sweepN_succ]; exact sweep_real es _ (fun e he => ⟨he, by rw [sweepN_len]; exact (hn e he).1⟩) (sweepN_real hn h k)
/-- after k rounds no chain of k edges is less -/
theorem sweepN_chain {n : Nat} {es : List Ed} {x : List Int} (hcs : Csm es) (hn : Nds n es) (hx : x.length = n) (hlo : Lo x) {u : Nat} (hu : gx x u = 0) : ∀ (k : Nat), k ≤ 900 → ∀ (p : List Ed), In es p → p.length ≤ k → ∀ v, Ch u p v → gx (sweepN es k x) v ≤ Su p ∧ gx (sweepN es k x) v ≠ far := by
  have mono : ∀ k v, gx (sweepN es (k + 1) x) v ≤ gx (sweepN es k x) v := fun k v => by rw [sweepN_succ]; exact sweep_le _ _ _
  intro k
  induction k with
  | zero =>
    intro hk9 p hp hl v hc
    obtain rfl := List.eq_nil_of_length_eq_zero (Nat.le_zero.1 hl)
    obtain rfl : u = v := hc
    show gx x u ≤ 0 ∧ gx x u ≠ far
    rw [hu]; exact ⟨Int.le_refl _, by simp [far]⟩
  | succ k ih =>
    intro hk9 p hp hl v hc
    have ih := ih (by omega)
    by_cases hk : p.length ≤ k
    · obtain ⟨h1, h2⟩ := ih p hp hk v hc
      have := mono k v
      have h3 := sweepN_lo (es := es) hlo k v
      exact ⟨by omega, by omega⟩
    · rcases List.eq_nil_or_concat p with rfl | ⟨p', e, rfl⟩
      · simp at hk
      · rw [List.concat_eq_append] at hp hl hc hk ⊢
        obtain ⟨m, c1, c2⟩ := Ch_app.1 hc
        obtain ⟨i1, i2⟩ := In.app.1 hp
        have he : e ∈ es := i2 e (by simp)
        obtain ⟨h1, h2⟩ := ih p' i1 (by simp at hl; omega) m c1
        have e1 : e.i = m := c2.1
        have e2 : e.j = v := c2.2
        have := sweep_met es (sweepN es k x) hn (by rw [sweepN_len, hx]) (sweepN_lo hlo k) e he (by rw [e1]; exact h2)
        rw [← sweepN_succ, e1, e2] at this
        have hS : Su (p' ++ [e]) = Su p' + e.c := by rw [Su_app]; show Su p' + (e.c + 0) = _; omega
        rw [hS]
        have hsm := Su_small hcs i1
        have hce := hcs e he
        have : (p'.length : Int) ≤ 900 := by simp at hl; omega
        refine ⟨by omega, ?_⟩
        unfold far; omega

def Ok0 (n : Nat) (es : List Ed) : Prop := Csm es ∧ Nds n es ∧ n ≤ 800
/-- a start: 0 at the sources, far elsewhere -/
def Src (n : Nat) (S : Nat → Prop) (x : List Int) : Prop := x.length = n ∧ ∀ v, v < n → (S v ∧ gx x v = 0) ∨ (¬ S v ∧ gx x v = far)
theorem gx_out {x : List Int} {v : Nat} (h : x.length ≤ v) : gx x v = 0 := by unfold gx; simp [List.getD_eq_getElem?_getD, h]
theorem Src.lo {n : Nat} {S : Nat → Prop} {x : List Int} (h : Src n S x) : Lo x := by
  intro v
  by_cases hv : v < n
  · rcases h.2 v hv with ⟨_, e⟩ | ⟨_, e⟩ <;> rw [e] <;> simp [far]
  · rw [gx_out (by have := h.1; omega)]; simp [far]
theorem Src.real {n : Nat} {S : Nat → Prop} {x : List Int} (h : Src n S x) (es : List Ed) : Real es S x := by
  intro v hv
  rcases h.2 v (by rw [← h.1]; exact hv) with ⟨k, e⟩ | ⟨_, e⟩
  · exact .inr ⟨v, [], k, by simp [In], rfl, by rw [e]; rfl⟩
  · exact .inl e
/-- where no closed chain is below 0, the values stand still after n - 1 rounds -/
theorem settled {n : Nat} {es : List Ed} {S : Nat → Prop} {x : List Int} (h0 : Ok0 n es) (hx : Src n S x) (hneg : ∀ p, ¬ Neg es p) {k : Nat} (hk : n ≤ k + 1) (hk9 : k ≤ 900) : sweepC es (sweepN es k x) = false := by
  obtain ⟨hc, hn, hn8⟩ := h0
  have hlen : (sweepN es k x).length = n := by rw [sweepN_len, hx.1]
  have hreal : Real es S (sweepN es k x) := sweepN_real (by rw [hx.1]; exact hn) (hx.real es) k
  have key : ∀ e ∈ es, ¬ lowers (sweepN es k x) e := by
    rintro e he ⟨l1, l2⟩
    obtain ⟨hi, hj⟩ := hn e he
    rcases hreal e.i (by omega) with h | ⟨u, p, p1, p2, p3, p4⟩
    · exact l1 h
    · have hu : u < n := by
        cases p with
        | nil => have : u = e.i := p3; omega
        | cons f q => have : f.i = u := p3.1; rw [← this]; exact (hn f (p2 f (by simp))).1
      have hu0 : gx x u = 0 := by
        rcases hx.2 u hu with ⟨_, h⟩ | ⟨h, _⟩
        · exact h
        · exact absurd p1 h
      obtain ⟨q, q1, q2, q3, q4⟩ := short_chain hn hneg _ (p ++ [e]) (Nat.le_refl _) (In.app.2 ⟨p2, by simpa [In] using he⟩) u e.j hu (Ch_app.2 ⟨e.i, p3, rfl, rfl⟩)
      have := (sweepN_chain hc hn hx.1 hx.lo hu0 k hk9 q q1 (by omega) e.j q2).1
      have hS : Su (p ++ [e]) = Su p + e.c := by rw [Su_app]; show Su p + (e.c + 0) = _; omega
      omega
  have : ∀ (l : List Ed), (∀ e ∈ l, e ∈ es) → sweepC l (sweepN es k x) = false := by
    intro l
    induction l with
    | nil => intro _; rfl
    | cons e l ih =>
      intro h
      have h1 := key e (h e (by simp))
      unfold sweepC
      rw [decide_eq_false h1, Bool.false_or, show step (sweepN es k x) e = sweepN es k x from if_neg h1]
      exact ih fun f hf => h f (by simp [hf])
  exact this es fun e h => h
theorem relaxF_stop {es : List Ed} : ∀ {k m : Nat} {x : List Int}, m < k → sweepC es (sweepN es m x) = false → relaxF es k x = (sweepN es m x, true)
  | 0, m, x, h, _ => by omega
  | k + 1, 0, x, _, h => by
    have h : sweepC es x = false := h
    rw [relaxF, if_neg (by rw [h]; exact Bool.false_ne_true), (sweepC_false h).1]; rfl
  | k + 1, m + 1, x, hm, h => by
    by_cases h0 : sweepC es x = true
    · rw [relaxF, if_pos h0]
      exact relaxF_stop (by omega) h
    · have h0 : sweepC es x = false := by simpa using h0
      have e := (sweepC_false h0).1
      have : ∀ m, sweepN es m x = x := by
        intro m
        induction m with
        | zero => rfl
        | succ m ih => rw [sweepN_succ, ih, e]
      rw [relaxF, if_neg (by rw [h0]; exact Bool.false_ne_true), this, e]
theorem relaxF_true {es : List Ed} : ∀ {k : Nat} {x : List Int}, (relaxF es k x).2 = true → ∃ m, m < k ∧ sweepC es (sweepN es m x) = false ∧ (relaxF es k x).1 = sweepN es m x
  | 0, x, h => by cases h
  | k + 1, x, h => by
    by_cases h0 : sweepC es x = true
    · rw [relaxF, if_pos h0] at h ⊢
      obtain ⟨m, h1, h2, h3⟩ := relaxF_true h
      exact ⟨m + 1, by omega, h2, h3⟩
    · have h0 : sweepC es x = false := by simpa using h0
      refine ⟨0, by omega, h0, ?_⟩
      rw [relaxF, if_neg (by rw [h0]; exact Bool.false_ne_true), (sweepC_false h0).1]; rfl
/-- a value that no bound lowers tells that no closed chain is below 0 -/
theorem stable_sum {es : List Ed} {x : List Int} (hst : ∀ e ∈ es, ¬ lowers x e) : ∀ {p : List Ed} {u v : Nat}, In es p → (∀ e ∈ p, gx x e.i ≠ far) → Ch u p v → gx x v ≤ gx x u + Su p
  | [], u, v, _, _, h => by obtain rfl : u = v := h; rw [Su_nil]; omega
  | e :: p, u, v, hp, hf, ⟨h1, h2⟩ => by
    obtain ⟨i1, i2⟩ := In.cons.1 hp
    have := stable_sum hst i2 (fun f hf' => hf f (by simp [hf'])) h2
    have h3 : ¬ gx x e.i + e.c < gx x e.j := fun h => hst e i1 ⟨hf e (by simp), h⟩
    rw [Su_cons, ← h1]
    omega
def zeros_ (n : Nat) : List Int := List.replicate n 0
theorem src_zeros (n : Nat) : Src n (fun _ => True) (zeros_ n) := ⟨by simp [zeros_], fun v hv => .inl ⟨trivial, gx_rep n 0 hv⟩⟩
theorem zeros_le {n : Nat} (es : List Ed) (k v : Nat) : gx (sweepN es k (zeros_ n)) v ≤ 0 := by
  induction k with
  | zero =>
    by_cases h : v < n
    · show gx (zeros_ n) v ≤ 0; unfold zeros_; rw [gx_rep n 0 h]; omega
    · show gx (zeros_ n) v ≤ 0; rw [gx_out (by simp [zeros_]; omega)]; omega
  | succ k ih => rw [sweepN_succ]; exact Int.le_trans (sweep_le _ _ _) ih
/-- Solve's first part: a solution, exactly if no closed chain is below 0 -/
theorem relax_iff {n : Nat} {es : List Ed} (h0 : Ok0 n es) {k : Nat} (hk : n ≤ k) (hn1 : 1 ≤ n) : (relaxF es k (zeros_ n)).2 = true ↔ ∀ p, ¬ Neg es p := by
  constructor
  · intro h p ⟨p1, p2, ⟨u, p3⟩, p4⟩
    obtain ⟨m, h1, h2, h3⟩ := relaxF_true h
    have hst := (sweepC_false h2).2
    have := stable_sum hst p2 (fun e _ => by have := zeros_le (n := n) es m e.i; unfold far; omega) p3
    omega
  · intro h
    rw [relaxF_stop (m := n - 1) (by omega) (settled h0 (src_zeros n) h (by omega) (by have := h0.2.2; omega))]
theorem relax_eq {n : Nat} {es : List Ed} {S : Nat → Prop} {x : List Int} (h0 : Ok0 n es) (hx : Src n S x) (hneg : ∀ p, ¬ Neg es p) {k : Nat} (hk : n ≤ k) (hn1 : 1 ≤ n) : relaxF es k x = (sweepN es (n - 1) x, true) :=
  relaxF_stop (by omega) (settled h0 hx hneg (by omega) (by have := h0.2.2; omega))

/-- a row that is being filled with far -/
def fillFar (k n : Nat) : List Int := List.replicate k far ++ List.replicate (n - k) 0
end Go.Gh
