/-
  The reference's journal, walked: Flip, Append.
-/
import Derived.Test.YtbficpmoppailaaJnR4
namespace Go.Gh
set_option linter.unusedSimpArgs false
set_option linter.unusedVariables false
set_option maxHeartbeats 4000000
open Go.RowKit
set_option maxRecDepth 4000

section
variable {call : GCall} {fr : Fr} {H : GHeap} {ks : List Kt} {R : Fr → GHeap → Prop} {hid : List Nat} {r : List (Bool × GOper)} {K : Fr → GHeap → Prop} {op : GOp}
/-- nothing is hidden -/
theorem GW_hideN {hide : List GArg} {pre : List GOper} {post : List (Bool × GOper)} (hh : (hidden fr hide).filter (· < H.len) = []) (h : Gw (gdoM call) pre (fun fr' H' => Gp call [] post (GN call ks R) fr' H') fr H) : GW call (.any hide pre post) ks R fr H := by
  obtain ⟨f1, H1, h1, h2⟩ := gws_ok h.ok
  obtain ⟨f2, H2, h3, h4⟩ := h2.ok
  exact ⟨gwp_hide hh (by simpa [ghide] using h1) ⟨f2, H2, by simpa [gback] using h3, h4.ok⟩⟩
/-- any object may be hidden -/
theorem GW_hideO {x : GArg} {v : Value} {i : Nat} {o : GObj} {pre : List GOper} {post : List (Bool × GOper)} (hv : x.ev fr = some v) (hi : idOf v = [i]) (hl : i < H.len) (hobj : H.obj i = some o)
    (h : Gw (gdoM call) pre (fun fr' H' => Gp call [i] post (GN call ks R) fr' (H'.put i o)) fr (H.put i (.dead o.unit))) : GW call (.any [x] pre post) ks R fr H := by
  have hh : (hidden fr [x]).filter (· < H.len) = [i] := by simp [hidden, hv, hi, hl]
  have hg : ghide H [i] = H.put i (.dead o.unit) := by simp [ghide, GHeap.unit, hobj]
  obtain ⟨f1, H1, h1, h2⟩ := gws_ok h.ok
  obtain ⟨f2, H2, h3, h4⟩ := h2.ok
  have hb : gback H H1 [i] = H1.put i o := by simp [gback, hobj]
  exact ⟨gwp_hide hh (by rw [hg]; exact h1) ⟨f2, H2, by rw [hb]; exact h3, h4.ok⟩⟩
theorem GW_hide2 {x y : GArg} {v w : Value} {i j : Nat} {o p : GObj} {pre : List GOper} {post : List (Bool × GOper)} (hv : x.ev fr = some v) (hi : idOf v = [i]) (hl : i < H.len) (ho : H.obj i = some o)
    (hv2 : y.ev fr = some w) (hi2 : idOf w = [j]) (hl2 : j < H.len) (ho2 : H.obj j = some p) (hij : i ≠ j)
    (h : Gw (gdoM call) pre (fun fr' H' => Gp call [i, j] post (GN call ks R) fr' ((H'.put i o).put j p)) fr ((H.put i (.dead o.unit)).put j (.dead p.unit))) : GW call (.any [x, y] pre post) ks R fr H := by
  have hh : (hidden fr [x, y]).filter (· < H.len) = [i, j] := by simp [hidden, hv, hi, hl, hv2, hi2, hl2]
  have hj2 : (H.put i (.dead o.unit)).obj j = some p := by rw [obj_put, if_neg hij]; exact ho2
  have hg : ghide H [i, j] = (H.put i (.dead o.unit)).put j (.dead p.unit) := by simp [ghide, GHeap.unit, ho, hj2]
  obtain ⟨f1, H1, h1, h2⟩ := gws_ok h.ok
  obtain ⟨f2, H2, h3, h4⟩ := h2.ok
  have hb : gback H H1 [i, j] = (H1.put i o).put j p := by simp [gback, ho, ho2]
  exact ⟨gwp_hide hh (by rw [hg]; exact h1) ⟨f2, H2, by rw [hb]; exact h3, h4.ok⟩⟩
theorem Gp_0 (h : ∀ K' : Value → GHeap → Prop, (∀ v H', Gp call hid r K fr H' → K' v H') → G1 (gdo call fr H op) K') : Gp call hid ((false, ⟨none, none, op⟩) :: r) K fr H := by
  have h := (h _ fun _ _ h => h).ok
  cases hr : gdo call fr H op with
  | none => rw [hr] at h; exact h.elim
  | some x =>
    rw [hr] at h
    obtain ⟨f2, H2, h1, h2⟩ := h.ok
    refine ⟨f2, H2, ?_, h2⟩
    simp only [gpost, gwants_none]
    rw [if_neg (by simp), gdoE_yes hr (fun e => by cases e)]
    exact h1
theorem Gp_0t (ha : aims fr hid op = true) (h : ∀ K' : Value → GHeap → Prop, (∀ v H', Gp call hid r K fr H' → K' v H') → G1 (gdo call fr H op) K') (hc : isCall op = false := by rfl) : Gp call hid ((true, ⟨none, none, op⟩) :: r) K fr H := by
  have h := (h _ fun _ _ h => h).ok
  cases hr : gdo call fr H op with
  | none => rw [hr] at h; exact h.elim
  | some x =>
    rw [hr] at h
    obtain ⟨f2, H2, h1, h2⟩ := h.ok
    refine ⟨f2, H2, ?_, h2⟩
    simp only [gpost, gwants_none]
    rw [if_neg (by rw [ha]; simp), gdoE_yes hr (fun _ e => by rw [hc] at e; cases e)]
    exact h1
end
def z6 : List Value := [.int .i64 0, .int .i64 0, .int .i64 0, .int .u64 0, .bool false, .bool false]
instance {call : GCall} {fr : Fr} {H : GHeap} {hid : List Nat} {r : List (Bool × GOper)} {K : Fr → GHeap → Prop} {op : GOp} : Ox (Gp call hid ((false, ⟨none, none, op⟩) :: r) K fr H) (∀ K' : Value → GHeap → Prop, (∀ v H', Gp call hid r K fr H' → K' v H') → G1 (gdo call fr H op) K') := ⟨fun h => Gp_0 h⟩
theorem rflip_ok {H : GHeap} (hw : H.wf) {dv : Value} {m : JM} (h : RM H dv m) {bit : Int} (_hb : -9223372036854775808 ≤ bit ∧ bit ≤ 9223372036854775807) :
    ∃ r H', gev G 32 [rmV dv m, .int .i64 bit] H = some (r, H') ∧ ∃ dv', r = .tuple #[rmV dv' (flipJ m bit), .int .i64 (flipE m bit)] ∧ RB H' dv' (flipJ m bit).data ∧ Same H H' ∧ ∀ a ∈ idOf dv', a ∈ idOf dv ∨ H.len ≤ a := by
  refine gev_GW (f := 32) rfl fun Post hPost => ?_
  have hd := h.rb.flat
  have hbig := h.big
  have h1 := rm_all (m := m) hd
  have h2 := rm_list (dv := dv) (m := m)
  have hlim := hw.1
  have hsl := h.rb.isSl
  have hS := ((Same.refl hw).add (.cells (rmC dv m) 0 true)).add (.cells z5 0 true)
  have hm1 : ((H.add (some (.cells (rmC dv m) 0 true))).add (some (.cells z5 0 true))).mine H.len = some (rmC dv m, 0) := by rw [mine_add_ne (by rw [len_add]; omega)]; exact mine_add_eq rfl hlim
  have hm2 : ((H.add (some (.cells (rmC dv m) 0 true))).add (some (.cells z5 0 true))).mine (H.len + 1) = some (z5, 0) := mine_add_eq (by rw [len_add]) (by rw [lim_add]; omega)
  have hl2 : ((H.add (some (.cells (rmC dv m) 0 true))).add (some (.cells z5 0 true))).len = H.len + 2 := by simp only [len_add]
  have hc1 : (rmC dv m)[1]? = some dv := rfl
  simp only [frameOf, Nat.reduceAdd]
  by_cases hok : flipOk m bit
  case neg =>
    have hno : bit < 0 ∨ 8 * (m.data.length : Int) ≤ bit := by
      by_cases h1 : bit < 0
      · exact .inl h1
      · exact .inr (Int.not_lt.1 fun h2 => hok ⟨by omega, h2⟩)
    have hF : flipJ m bit = m ∧ flipE m bit = 2 := ⟨if_neg hok, if_neg hok⟩
    have e1 := rm_rdn hm1
    have e3 := rm_gset (cs := z5) rfl (m := m) hd
    have e4 := fun HZ : GHeap => rm_put (H := HZ) (i := H.len + 1) (dv := dv) (m := m)
    have e1' : ((H.add (some (.cells (rmC dv m) 0 true))).add (some (.cells [.int .i64 0, .slice none 0 0, .bool false, .int .i64 0, .bool false] 0 true))).rdn H.len 0 5 = some (rmV dv m) := e1
    have e3' : gsetn [.int .i64 0, .slice none 0 0, .bool false, .int .i64 0, .bool false] 0 5 (rmV dv m) = some (rmC dv m) := e3
    have hSf := hS.put (i := H.len + 1) (by omega) (by omega) (.cells (rmC dv m) 0 true)
    repeat' (first | (exfalso; omega) | refine zn ?_ | refine zK rfl ?_ | refine zP rfl ?_ | ((first | refine zm ?_ | skip); intro _; intros; simp (disch := first | exact zd | fail) only [↓yS, yT, gresults, gone, ↓reduceIte, Nat.reduceEqDiff, Nat.reduceAdd, Nat.reduceMul, reduceCtorEq, Int.reduceToNat, g32, h1, h2, hc1, hsl.len, e1', e3', e4]; first | (rename_i K k; (first | refine yC (k _ _ ?_) | refine zg (k _ ?_)); clear k K) | (rename_i A B C D a b c d; (first | refine zx (a ?_) | refine zy (b ?_) | refine zz (fun hc => c ?_) (fun hc => d ?_) | refine zv (b ?_) | refine zw (a ?_)) <;> clear a b c d A B C D <;> try simp only [yL] at hc)) | refine zA ?_ | refine zB ?_ | refine zF ?_)
    all_goals
      refine hPost _ _ ⟨dv, ?_, ?_, hSf, fun a ha => .inl ha⟩
      · rw [hF.1, hF.2]
      · rw [hF.1]; exact h.rb.same_ hw hSf
  obtain ⟨hk1, hk2⟩ := id hok
  obtain ⟨b, rfl⟩ : ∃ b : Nat, bit = b := ⟨bit.toNat, by omega⟩
  have hF1 : flipJ m (b : Int) = {m with data := xorBit m.data b} := by unfold flipJ; rw [if_pos hok, Int.toNat_natCast]
  have hF2 : flipE m (b : Int) = 0 := if_pos hok
  repeat' (first | (exfalso; omega) | refine zn ?_ | refine zK rfl ?_ | refine zP rfl ?_ | ((first | refine zm ?_ | skip); intro _; intros; simp (disch := first | exact zd | fail) only [↓yS, yT, gresults, gone, ↓reduceIte, Nat.reduceEqDiff, Nat.reduceAdd, Nat.reduceMul, reduceCtorEq, Int.reduceToNat, g32, h1, h2, hc1, hsl.len]; first | (rename_i K k; (first | refine yC (k _ _ ?_) | refine zg (k _ ?_)); clear k K) | (rename_i A B C D a b c d; (first | refine zx (a ?_) | refine zy (b ?_) | refine zz (fun hc => c ?_) (fun hc => d ?_) | refine zv (b ?_) | refine zw (a ?_)) <;> clear a b c d A B C D <;> try simp only [yL] at hc)) | refine zA ?_ | refine zB ?_ | refine zF ?_)
  rw [show ([.int .i64 0, .slice none 0 0, .bool false, .int .i64 0, .bool false] : List Value) = z5 from rfl]
  generalize ((H.add (some (.cells (rmC dv m) 0 true))).add (some (.cells z5 0 true))) = H2 at *
  have hw2 := hS.wf
  have hO0 : OB H (H2.add (some (.cells [] 257 true))) (.slice (some ⟨H2.len, 0, none⟩) 0 1) [] := OB.made (l := []) hS rfl 1 (.inr rfl)
  have hSa := (Same.refl hw2).add (.cells [] 257 true)
  have hm1a : (H2.add (some (.cells [] 257 true))).mine H.len = some (rmC dv m, 0) := by rw [hSa.mine (by omega)]; exact hm1
  have hm2a : (H2.add (some (.cells [] 257 true))).mine (H.len + 1) = some (z5, 0) := by rw [hSa.mine (by omega)]; exact hm2
  have hr1 : (H2.add (some (.cells [] 257 true))).rd H.len 1 = some dv := mine_rd hm1a
  have hRa := h.rb.same_ hw (hS.trans hSa)
  have hOS : OS 1 257 H (H2.add (some (.cells [] 257 true))) (.slice (some ⟨H2.len, 0, none⟩) 0 1) 0 [] := ⟨hO0.same, hO0.own, hO0.young⟩
  obtain ⟨v', H3, e, hO', hB'⟩ := hOS.appN (b := 1) (by decide) (by decide) hRa (by omega) (by omega)
  rw [List.nil_append, Nat.zero_add] at hO'
  have e' := e
  rw [hl2] at e'
  have hO : OB H H3 v' m.data := ⟨hO'.same, hO'.own, hO'.young⟩
  have hn2 : ∀ a, a < H2.len → ¬ a ∈ idOf (.slice (some ⟨H2.len, 0, none⟩) 0 1) := fun a ha hb => by
    simp only [idOf, List.mem_singleton] at hb; omega
  have hw3 := hO.same.wf
  have hm13 : H3.mine H.len = some (rmC dv m, 0) := by rw [hB'.mine (by rw [len_add]; omega) (hn2 _ (by omega))]; exact hm1a
  have hm23 : H3.mine (H.len + 1) = some (z5, 0) := by rw [hB'.mine (by rw [len_add]; omega) (hn2 _ (by omega))]; exact hm2a
  have hf' := hO.rb.flat
  obtain ⟨jj, gc, hdv, hgc, hmj, hj0⟩ := hO.shape (by omega)
  repeat' (first | (exfalso; omega) | refine zn ?_ | refine zK rfl ?_ | refine zP rfl ?_ | ((first | refine zm ?_ | skip); intro _; intros; simp (disch := first | exact zd | fail) only [↓yS, yT, gresults, gone, ↓reduceIte, Nat.reduceEqDiff, Nat.reduceAdd, Nat.reduceMul, reduceCtorEq, Int.reduceToNat, g32, hr1]; first | (rename_i K k; (first | refine yC (k _ _ ?_) | refine zg (k _ ?_)); clear k K) | (rename_i A B C D a b c d; (first | refine zx (a ?_) | refine zy (b ?_) | refine zz (fun hc => c ?_) (fun hc => d ?_) | refine zv (b ?_) | refine zw (a ?_)) <;> clear a b c d A B C D <;> try simp only [yL] at hc)) | refine zA ?_ | refine zB ?_ | refine zF ?_)
  refine Gw_s fun K' hK' => ?_
  simp (disch := first | exact zd | fail) only [↓yS, yT, ↓reduceIte, Nat.reduceEqDiff, Nat.reduceAdd, Nat.reduceMul, reduceCtorEq, Int.reduceToNat, hr1]
  refine G1_eq e' (hK' _ _ ?_)
  clear hK' K' e e'
  have hlim3 := (mine_obj hm13).1
  have hjne : jj ≠ H.len ∧ jj ≠ H.len + 1 := by
    constructor
    · rintro rfl; rw [hm13] at hmj; simp at hmj
    · rintro rfl; rw [hm23] at hmj; simp at hmj
  have hm13' : H3.mine H.len = some ([.int .i64 (m.size : Int), dv, .bool m.armed, .int .i64 m.left, .bool m.off], 0) := hm13
  have hgs : gset [.int .i64 (m.size : Int), dv, .bool m.armed, .int .i64 m.left, .bool m.off] 1 v' = some (rmC v' m) := by rw [gset_ok (by simp) hf']; rfl
  have hm14 : (H3.put H.len (.cells (rmC v' m) 0 true)).mine H.len = some (rmC v' m, 0) := mine_put_same hlim3
  have hm24 : (H3.put H.len (.cells (rmC v' m) 0 true)).mine (H.len + 1) = some (z5, 0) := by rw [mine_put_ne (by omega)]; exact hm23
  have hmj4 : (H3.put H.len (.cells (rmC v' m) 0 true)).mine jj = some (u8s m.data, 257) := by rw [mine_put_ne (by omega)]; exact hmj
  have hO4 := hO.put0 (Nat.le_refl _) hm13 (.cells (rmC v' m) 0 true)
  have q1 : ∀ e, gbin .quo e (.int .i64 (b : Int)) (.int .i64 8) = some (.int .i64 ((b / 8 : Nat) : Int)) := fun e => gb_quoN (b := 8) (by decide) (by omega)
  have q2 : ∀ e, gbin .rem e (.int .i64 (b : Int)) (.int .i64 8) = some (.int .i64 ((b % 8 : Nat) : Int)) := fun e => gb_remN (b := 8) (by decide)
  have q3 := fun e k' => shl1_8 (e := e) (k' := k') (s := b % 8) (by omega)
  have q4 := fun e => gb_xor8 (e := e) (a := m.data[b / 8]!) (b := UInt8.ofNat (2 ^ (b % 8)))
  have hsl4 : IsSl v' m.data.length := ⟨_, _, hdv, fun _ => ⟨_, _, rfl⟩⟩
  have q5 : ∀ kd, gia none 1 v' (.int kd ((b / 8 : Nat) : Int)) = some (.pointer (some ⟨jj, b / 8, none⟩)) := fun kd => by
    rw [hsl4.ia (by omega) (by omega), Int.toNat_natCast, hdv]; simp [blk, ofs]
  have hrH : (H3.put H.len (.cells (rmC v' m) 0 true)).rd H.len 1 = some v' := mine_rd hm14
  have hrj : (H3.put H.len (.cells (rmC v' m) 0 true)).rd jj (b / 8) = some (.int .u8 m.data[b / 8]!.toNat) := by rw [mine_rd hmj4]; exact u8s_at (by omega)
  have hF3 : u8s (m.data.set (b / 8) (m.data[b / 8]! ^^^ UInt8.ofNat (2 ^ (b % 8)))) = u8s (xorBit m.data b) := rfl
  repeat' (first | (exfalso; omega) | refine zn ?_ | refine zK rfl ?_ | refine zP rfl ?_ | ((first | refine zm ?_ | skip); intro _; intros; simp (disch := first | exact zd | fail) only [↓yS, yT, gresults, gone, ↓reduceIte, Nat.reduceEqDiff, Nat.reduceAdd, Nat.reduceMul, reduceCtorEq, Int.reduceToNat, g32, hm13', hgs, hrH, hrj, q1, q2, q3, q4, q5, hmj4, u8s_setb, hF3]; first | (rename_i K k; (first | refine yC (k _ _ ?_) | refine zg (k _ ?_)); clear k K) | (rename_i A B C D a b c d; (first | refine zx (a ?_) | refine zy (b ?_) | refine zz (fun hc => c ?_) (fun hc => d ?_) | refine zv (b ?_) | refine zw (a ?_)) <;> clear a b c d A B C D <;> try simp only [yL] at hc)) | refine zA ?_ | refine zB ?_ | refine zF ?_)
  generalize H3.put H.len (.cells (rmC v' m) 0 true) = H4 at *
  have hmY : (H4.put jj (.cells (u8s (xorBit m.data b)) 257 true)).mine H.len = some (rmC v' m, 0) := by rw [mine_put_ne (by omega)]; exact hm14
  have hm2Y : (H4.put jj (.cells (u8s (xorBit m.data b)) 257 true)).mine (H.len + 1) = some (z5, 0) := by rw [mine_put_ne (by omega)]; exact hm24
  have hmjY : (H4.put jj (.cells (u8s (xorBit m.data b)) 257 true)).mine jj = some (u8s (xorBit m.data b), 257) := mine_put_same (mine_obj hmj4).1
  have hSY := hO4.same.put (by omega) (mine_lt hO4.same.wf hmj4) (.cells (u8s (xorBit m.data b)) 257 true)
  generalize H4.put jj (.cells (u8s (xorBit m.data b)) 257 true) = HY at *
  have e1 := rm_rdn hmY
  have e2 := rm_gset (cs := z5) rfl (m := m) hf'
  have e4 : (HY.put (H.len + 1) (.cells (rmC v' m) 0 true)).rdn (H.len + 1) 0 5 = some (rmV v' m) := rm_put
  repeat' (first | (exfalso; omega) | refine zn ?_ | refine zK rfl ?_ | refine zP rfl ?_ | ((first | refine zm ?_ | skip); intro _; intros; simp (disch := first | exact zd | fail) only [↓yS, yT, gresults, gone, ↓reduceIte, Nat.reduceEqDiff, Nat.reduceAdd, Nat.reduceMul, reduceCtorEq, Int.reduceToNat, g32, e1, e2, hm2Y, e4]; first | (rename_i K k; (first | refine yC (k _ _ ?_) | refine zg (k _ ?_)); clear k K) | (rename_i A B C D a b c d; (first | refine zx (a ?_) | refine zy (b ?_) | refine zz (fun hc => c ?_) (fun hc => d ?_) | refine zv (b ?_) | refine zw (a ?_)) <;> clear a b c d A B C D <;> try simp only [yL] at hc)) | refine zA ?_ | refine zB ?_ | refine zF ?_)
  have hxl := xorBit_length m.data b
  have hrmV : rmV v' m = rmV v' {m with data := xorBit m.data b} := by simp [rmV, rmC, JM.size, hxl]
  have hwZ := wf_put hSY.wf (mine_lt hSY.wf hm2Y) (.cells (rmC v' m) 0 true)
  have hRZ : RB (HY.put (H.len + 1) (.cells (rmC v' m) 0 true)) v' (xorBit m.data b) := by
    have := RB.new (l := xorBit m.data b) hwZ (i := jj) (gc := gc) (by rw [mine_put_ne (by omega)]; exact hmjY) (by rw [hxl]; exact hgc)
    rw [hxl, ← hdv] at this; exact this
  rw [hrmV]
  refine hPost _ _ ⟨_, by rw [hF1, hF2], ?_, hSY.put (by omega) (mine_lt hSY.wf hm2Y) _, fun a ha => .inr ?_⟩
  · rw [hF1]
    exact hRZ
  · rw [hdv] at ha
    simp only [idOf, List.mem_singleton] at ha
    rw [ha]; exact hj0
end Go.Gh
