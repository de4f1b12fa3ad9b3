/-
  Parts of the proof: walks of the ghost functions and the laws of what they compute. No condition.
-/
import Derived.Test.YtjjcgaompnjbdaaGreatDoorK3
import Derived.Laws.Bits64
import Derived.Laws.BitsAllLaws
namespace Go.Gh
set_option linter.unusedVariables false
set_option linter.unusedSimpArgs false
open Go.RowKit
def CLe (call call':GCall):Prop:=∀ f args H r,call f args H=some r→call' f args H=some r
theorem CLe.refl (call:GCall):CLe call call:=fun _ _ _ _ h=>h
section
variable {call call':GCall}
theorem gdo_mono (h:CLe call call') {fr:Fr} {H:GHeap} {op:GOp} {r:Value × GHeap} (hd:gdo call fr H op=some r):gdo call' fr H op=some r:=by
 unfold gdo at hd ⊢
 split at hd
 ·simp only [Option.bind_eq_some_iff] at hd ⊢
  obtain ⟨⟨g,args⟩,h1,h2⟩:=hd
  exact ⟨(g,args),h1,h _ _ _ _ h2⟩
 ·exact hd
theorem gdoM_mono (h:CLe call call') {fr:Fr} {H:GHeap} {op:GOp} {r:Value × GHeap} (hd:gdoM call fr H op=some r):gdoM call' fr H op=some r:=by
 unfold gdoM at hd ⊢
 split at hd
 ·simp only [Option.bind_eq_some_iff,Option.map_eq_some_iff] at hd ⊢
  obtain ⟨⟨g,args⟩,h1,⟨v,H1⟩,h2,h3⟩:=hd
  exact ⟨(g,args),h1,(v,H1),h _ _ _ _ h2,h3⟩
 ·exact hd
theorem gsteps_mono {run run':Fr→GHeap→GOp→Option (Value × GHeap)} (h:∀ fr H op r,run fr H op=some r→run' fr H op=some r):∀ (l:List GOper) (fr:Fr) (H:GHeap) (r:Fr × GHeap),gsteps run l fr H=some r→gsteps run' l fr H=some r
 |[],fr,H,r,hd=>hd
 |o :: l,fr,H,r,hd=>by
  simp only [gsteps] at hd ⊢
  split at hd
  ·split at hd
   ·rename_i v H1 h1
    rw [h _ _ _ _ h1]
    exact gsteps_mono h l _ _ _ hd
   ·cases hd
  ·exact gsteps_mono h l _ _ _ hd
  ·cases hd
theorem gpost_mono (h:CLe call call') (hid:List Nat):∀ (l:List (Bool × GOper)) (fr:Fr) (H:GHeap) (r:Fr × GHeap),gpost call hid l fr H=some r→gpost call' hid l fr H=some r
 |[],fr,H,r,hd=>hd
 |(e,o) :: l,fr,H,r,hd=>by
  simp only [gpost] at hd ⊢
  split at hd
  ·split at hd
   ·cases hd
   ·rename_i hne
    rw [if_neg hne]
    split at hd
    ·rename_i v H1 h1
     rw [gdoE_yes (gdo_mono h (gdoE_some h1).1) (gdoE_some h1).2]
     exact gpost_mono h hid l _ _ _ hd
    ·cases hd
  ·exact gpost_mono h hid l _ _ _ hd
  ·cases hd
theorem gany_mono (h:CLe call call') {hide:List GArg} {pre:List GOper} {post:List (Bool × GOper)} {fr:Fr} {H:GHeap} {r:Fr × GHeap} (hd:gany call hide pre post fr H=some r):gany call' hide pre post fr H=some r:=by
 unfold gany at hd ⊢
 split at hd
 ·rename_i f1 H1 h1
  rw [gsteps_mono (fun _ _ _ _=>gdoM_mono h) _ _ _ _ h1]
  exact gpost_mono h _ _ _ _ _ hd
 ·cases hd
theorem gloop_mono {body body':Fr→GHeap→GRes} (h:∀ fr H r,body fr H=some r→body' fr H=some r):∀ (n n':Nat),n≤n'→∀ (fr:Fr) (H:GHeap) (r:GExit × Fr × GHeap),gloop body n fr H=some r→gloop body' n' fr H=some r
 |0,_,_,fr,H,r,hd=>by cases hd
 |n+1,0,hn,fr,H,r,hd=>by omega
 |n+1,n'+1,hn,fr,H,r,hd=>by
  simp only [gloop] at hd ⊢
  split at hd
  ·rename_i f1 H1 h1
   rw [h _ _ _ h1]
   exact gloop_mono h n n' (by omega) _ _ _ hd
  ·rename_i hne
   rw [h _ _ _ hd]
   split
   ·rename_i f1 H1 h1
    cases h1
    exact absurd hd (hne _ _)
   ·rfl
theorem gcode_mono (h:CLe call call') {m m':Nat} (hm:m≤m'):∀ (c:GCode) (fr:Fr) (H:GHeap) (r:GExit × Fr × GHeap),gcode call m c fr H=some r→gcode call' m' c fr H=some r:=by
 intro c
 induction c with
 |skip=>intro fr H r hd;exact hd
 |exit id=>intro fr H r hd;exact hd
 |ret=>intro fr H r hd;exact hd
 |bad=>intro fr H r hd;cases hd
 |goto l=>intro fr H r hd;exact hd
 |scope a l r iha ihr=>
  intro fr H r' hd
  simp only [gcode] at hd ⊢
  split at hd
  ·rename_i h1
   rw [iha _ _ _ h1]
   simp only
   split at hd
   ·rename_i hl
    rw [if_pos hl]
    split at hd
    ·cases hd
    ·rename_i hne
     rw [ihr _ _ _ hd]
     split
     ·rename_i h2
      cases h2
      exact absurd hd (hne _ _ _)
     ·rfl
   ·cases hd
  ·rename_i hne
   rw [iha _ _ _ hd]
   split
   ·rename_i h1
    cases h1
    exact absurd hd (hne _ _ _)
   ·rfl
 |line l=>
  intro fr H r hd
  simp only [gcode] at hd ⊢
  split at hd
  ·rename_i f1 H1 h1
   rw [gsteps_mono (fun _ _ _ _=>gdo_mono h) _ _ _ _ h1];exact hd
  ·cases hd
 |any hide pre post=>
  intro fr H r hd
  simp only [gcode] at hd ⊢
  split at hd
  ·rename_i f1 H1 h1
   rw [gany_mono h h1];exact hd
  ·cases hd
 |seq a b iha ihb=>
  intro fr H r hd
  simp only [gcode] at hd ⊢
  split at hd
  ·rename_i f1 H1 h1
   rw [iha _ _ _ h1];exact ihb _ _ _ hd
  ·rename_i hne
   rw [iha _ _ _ hd]
   split
   ·rename_i f1 H1 h1
    cases h1
    exact absurd hd (hne _ _)
   ·rfl
 |cond c a b iha ihb=>
  intro fr H r hd
  simp only [gcode] at hd ⊢
  split at hd
  ·exact iha _ _ _ hd
  ·exact ihb _ _ _ hd
  ·cases hd
 |block id a iha=>
  intro fr H r hd
  simp only [gcode] at hd ⊢
  split at hd
  ·rename_i h1
   rw [iha _ _ _ h1];exact hd
  ·rename_i hne
   rw [iha _ _ _ hd]
   split
   ·rename_i h1
    cases h1
    exact absurd hd (hne _ _ _)
   ·rfl
 |loop a iha=>
  intro fr H r hd
  simp only [gcode] at hd ⊢
  exact gloop_mono iha _ _ hm _ _ _ hd
theorem gbody_mono (h:CLe call call') {m m':Nat} (hm:m≤m') {g:GFun} {args:List Value} {H:GHeap} {r:Value × GHeap} (hd:gbody call m g args H=some r):gbody call' m' g args H=some r:=by
 unfold gbody at hd ⊢
 split at hd
 ·rename_i f1 H1 h1
  rw [gcode_mono h hm _ _ _ _ h1];exact hd
 ·rename_i f1 H1 h1
  rw [gcode_mono h hm _ _ _ _ h1];exact hd
 ·cases hd
theorem gcall_mono {G:FuncId→Option GEnt}:∀ (d d' m m':Nat),d≤d'→m≤m'→CLe (gcall G m d) (gcall G m' d')
 |0,_,_,_,_,_=>fun _ _ _ _ h=>by cases h
 |d+1,0,_,_,hd,_=>by omega
 |d+1,d'+1,m,m',hd,hm=>by
  have ih:=gcall_mono (G:=G) d d' m m' (by omega) hm
  intro f args H r h
  simp only [gcall] at h ⊢
  split at h
  ·exact gbody_mono ih hm h
  ·split at h
   ·rename_i hargs
    rw [if_pos hargs]
    split at h
    ·rename_i v H1 h1
     rw [gbody_mono ih hm h1];exact h
    ·cases h
   ·cases h
  ·exact ih _ _ _ _ h
  ·exact h
  ·exact h
  ·cases h
variable {G:FuncId→Option GEnt}
def Runs (G:FuncId→Option GEnt) (f:FuncId) (args:List Value) (H:GHeap) (r:Value × GHeap):Prop:=∃ n,gcall G n n f args H=some r
theorem Runs.one {f:FuncId} {args:List Value} {H:GHeap} {r r':Value × GHeap} (h:Runs G f args H r) (h':Runs G f args H r'):r=r':=by
 obtain ⟨n,h⟩:=h
 obtain ⟨n',h'⟩:=h'
 have h1:=gcall_mono (G:=G) n (max n n') n (max n n') (by omega) (by omega) _ _ _ _ h
 have h2:=gcall_mono (G:=G) n' (max n n') n' (max n n') (by omega) (by omega) _ _ _ _ h'
 rw [h1] at h2
 exact Option.some.inj h2
open Classical in
noncomputable def gev (G:FuncId→Option GEnt):GCall:=fun f args H=>if h:∃ r,Runs G f args H r then some h.choose else none
theorem gev_some {f:FuncId} {args:List Value} {H:GHeap} {r:Value × GHeap}:gev G f args H=some r↔Runs G f args H r:=by
 unfold gev
 constructor
 ·intro h
  split at h
  ·rename_i hex
   cases h
   exact hex.choose_spec
  ·cases h
 ·intro h
  have hex:∃ r,Runs G f args H r:=⟨r,h⟩
  rw [dif_pos hex]
  exact congrArg some (Runs.one hex.choose_spec h)
theorem gev_of_gcall {m d:Nat} {f:FuncId} {args:List Value} {H:GHeap} {r:Value × GHeap} (h:gcall G m d f args H=some r):gev G f args H=some r:=
 gev_some.2 ⟨max m d,gcall_mono d _ m _ (by omega) (by omega) _ _ _ _ h⟩
noncomputable abbrev gat (G:FuncId→Option GEnt) (n:Nat):GCall:=gcall G n n
theorem gat_le {n n':Nat} (h:n≤n'):CLe (gat G n) (gat G n'):=gcall_mono _ _ _ _ h h
theorem gdo_fin {fr:Fr} {H:GHeap} {op:GOp} {r:Value × GHeap} (hd:gdo (gev G) fr H op=some r):∃ n,gdo (gat G n) fr H op=some r:=by
 unfold gdo at hd ⊢
 split at hd
 ·simp only [Option.bind_eq_some_iff] at hd
  obtain ⟨⟨g,args⟩,h1,h2⟩:=hd
  obtain ⟨n,h3⟩:=gev_some.1 h2
  refine ⟨n,?_⟩
  rw [h1];exact h3
 ·exact ⟨0,hd⟩
theorem gdoM_fin {fr:Fr} {H:GHeap} {op:GOp} {r:Value × GHeap} (hd:gdoM (gev G) fr H op=some r):∃ n,gdoM (gat G n) fr H op=some r:=by
 unfold gdoM at hd ⊢
 split at hd
 ·simp only [Option.bind_eq_some_iff,Option.map_eq_some_iff] at hd
  obtain ⟨⟨g,args⟩,h1,⟨v,H1⟩,h2,h4⟩:=hd
  obtain ⟨n,h3⟩:=gev_some.1 h2
  refine ⟨n,?_⟩
  simp only [Option.bind_eq_some_iff,Option.map_eq_some_iff]
  exact ⟨(g,args),h1,(v,H1),h3,h4⟩
 ·exact ⟨0,hd⟩
theorem gsteps_fin {run:GCall→Fr→GHeap→GOp→Option (Value × GHeap)} (hm:∀ c c',CLe c c'→∀ fr H op r,run c fr H op=some r→run c' fr H op=some r) (hf:∀ fr H op r,run (gev G) fr H op=some r→∃ n,run (gat G n) fr H op=some r):
 ∀ (l:List GOper) (fr:Fr) (H:GHeap) (r:Fr × GHeap),gsteps (run (gev G)) l fr H=some r→∃ n,gsteps (run (gat G n)) l fr H=some r
 |[],fr,H,r,hd=>⟨0,hd⟩
 |o :: l,fr,H,r,hd=>by
  simp only [gsteps] at hd
  split at hd
  ·rename_i hw
   split at hd
   ·rename_i v H1 h1
    obtain ⟨n1,k1⟩:=hf _ _ _ _ h1
    obtain ⟨n2,k2⟩:=gsteps_fin hm hf l _ _ _ hd
    refine ⟨max n1 n2,?_⟩
    simp only [gsteps]
    rw [hw]
    simp only
    rw [hm _ _ (gat_le (Nat.le_max_left _ _)) _ _ _ _ k1]
    exact gsteps_mono (hm _ _ (gat_le (Nat.le_max_right _ _))) _ _ _ _ k2
   ·cases hd
  ·rename_i hw
   obtain ⟨n2,k2⟩:=gsteps_fin hm hf l _ _ _ hd
   refine ⟨n2,?_⟩
   simp only [gsteps]
   rw [hw];exact k2
  ·cases hd
theorem gpost_fin (hid:List Nat):∀ (l:List (Bool × GOper)) (fr:Fr) (H:GHeap) (r:Fr × GHeap),gpost (gev G) hid l fr H=some r→∃ n,gpost (gat G n) hid l fr H=some r
 |[],fr,H,r,hd=>⟨0,hd⟩
 |(e,o) :: l,fr,H,r,hd=>by
  simp only [gpost] at hd
  split at hd
  ·rename_i hw
   split at hd
   ·cases hd
   ·rename_i hne
    split at hd
    ·rename_i v H1 h1
     obtain ⟨n1,k1⟩:=gdo_fin (gdoE_some h1).1
     obtain ⟨n2,k2⟩:=gpost_fin hid l _ _ _ hd
     refine ⟨max n1 n2,?_⟩
     simp only [gpost]
     rw [hw]
     simp only
     rw [if_neg hne,gdoE_yes (gdo_mono (gat_le (Nat.le_max_left _ _)) k1) (gdoE_some h1).2]
     exact gpost_mono (gat_le (Nat.le_max_right _ _)) _ _ _ _ _ k2
    ·cases hd
  ·rename_i hw
   obtain ⟨n2,k2⟩:=gpost_fin hid l _ _ _ hd
   refine ⟨n2,?_⟩
   simp only [gpost]
   rw [hw];exact k2
  ·cases hd
theorem gany_fin {hide:List GArg} {pre:List GOper} {post:List (Bool × GOper)} {fr:Fr} {H:GHeap} {r:Fr × GHeap} (hd:gany (gev G) hide pre post fr H=some r):∃ n,gany (gat G n) hide pre post fr H=some r:=by
 unfold gany at hd
 split at hd
 ·rename_i f1 H1 h1
  obtain ⟨n1,k1⟩:=gsteps_fin (run:=gdoM) (fun _ _ h _ _ _ _=>gdoM_mono h) (fun _ _ _ _=>gdoM_fin) _ _ _ _ h1
  obtain ⟨n2,k2⟩:=gpost_fin _ _ _ _ _ hd
  refine ⟨max n1 n2,?_⟩
  unfold gany
  rw [gsteps_mono (fun _ _ _ _=>gdoM_mono (gat_le (Nat.le_max_left n1 n2))) _ _ _ _ k1]
  exact gpost_mono (gat_le (Nat.le_max_right _ _)) _ _ _ _ _ k2
 ·cases hd
theorem gloop_fin {body:GCall→Fr→GHeap→GRes} (hm:∀ c c',CLe c c'→∀ fr H r,body c fr H=some r→body c' fr H=some r) (hf:∀ fr H r,body (gev G) fr H=some r→∃ n,body (gat G n) fr H=some r):
 ∀ (k:Nat) (fr:Fr) (H:GHeap) (r:GExit × Fr × GHeap),gloop (body (gev G)) k fr H=some r→∃ n,gloop (body (gat G n)) k fr H=some r
 |0,fr,H,r,hd=>by cases hd
 |k+1,fr,H,r,hd=>by
  simp only [gloop] at hd
  split at hd
  ·rename_i f1 H1 h1
   obtain ⟨n1,k1⟩:=hf _ _ _ h1
   obtain ⟨n2,k2⟩:=gloop_fin hm hf k _ _ _ hd
   refine ⟨max n1 n2,?_⟩
   simp only [gloop]
   rw [hm _ _ (gat_le (Nat.le_max_left _ _)) _ _ _ k1]
   exact gloop_mono (hm _ _ (gat_le (Nat.le_max_right _ _))) _ _ (Nat.le_refl _) _ _ _ k2
  ·rename_i hne
   obtain ⟨n1,k1⟩:=hf _ _ _ hd
   refine ⟨n1,?_⟩
   simp only [gloop]
   rw [k1]
   split
   ·rename_i h1
    cases h1
    exact absurd hd (hne _ _)
   ·rfl
theorem gcode_fin (m:Nat):∀ (c:GCode) (fr:Fr) (H:GHeap) (r:GExit × Fr × GHeap),gcode (gev G) m c fr H=some r→∃ n,gcode (gat G n) m c fr H=some r:=by
 intro c
 induction c with
 |skip=>intro fr H r hd;exact ⟨0,hd⟩
 |exit id=>intro fr H r hd;exact ⟨0,hd⟩
 |ret=>intro fr H r hd;exact ⟨0,hd⟩
 |bad=>intro fr H r hd;cases hd
 |goto l=>intro fr H r hd;exact ⟨0,hd⟩
 |scope a l r iha ihr=>
  intro fr H r' hd
  simp only [gcode] at hd
  split at hd
  ·rename_i h1
   obtain ⟨n1,k1⟩:=iha _ _ _ h1
   split at hd
   ·rename_i hl
    split at hd
    ·cases hd
    ·rename_i hne
     obtain ⟨n2,k2⟩:=ihr _ _ _ hd
     refine ⟨max n1 n2,?_⟩
     simp only [gcode]
     rw [gcode_mono (gat_le (Nat.le_max_left _ _)) (Nat.le_refl _) _ _ _ _ k1]
     simp only
     rw [if_pos hl,gcode_mono (gat_le (Nat.le_max_right _ _)) (Nat.le_refl _) _ _ _ _ k2]
     split
     ·rename_i h2
      cases h2
      exact absurd hd (hne _ _ _)
     ·rfl
   ·cases hd
  ·rename_i hne
   obtain ⟨n1,k1⟩:=iha _ _ _ hd
   refine ⟨n1,?_⟩
   simp only [gcode]
   rw [k1]
   split
   ·rename_i h1
    cases h1
    exact absurd hd (hne _ _ _)
   ·rfl
 |line l=>
  intro fr H r hd
  simp only [gcode] at hd
  split at hd
  ·rename_i f1 H1 h1
   obtain ⟨n1,k1⟩:=gsteps_fin (run:=gdo) (fun _ _ h _ _ _ _=>gdo_mono h) (fun _ _ _ _=>gdo_fin) _ _ _ _ h1
   refine ⟨n1,?_⟩
   simp only [gcode]
   rw [k1];exact hd
  ·cases hd
 |any hide pre post=>
  intro fr H r hd
  simp only [gcode] at hd
  split at hd
  ·rename_i f1 H1 h1
   obtain ⟨n1,k1⟩:=gany_fin h1
   refine ⟨n1,?_⟩
   simp only [gcode]
   rw [k1];exact hd
  ·cases hd
 |seq a b iha ihb=>
  intro fr H r hd
  simp only [gcode] at hd
  split at hd
  ·rename_i f1 H1 h1
   obtain ⟨n1,k1⟩:=iha _ _ _ h1
   obtain ⟨n2,k2⟩:=ihb _ _ _ hd
   refine ⟨max n1 n2,?_⟩
   simp only [gcode]
   rw [gcode_mono (gat_le (Nat.le_max_left _ _)) (Nat.le_refl _) _ _ _ _ k1]
   exact gcode_mono (gat_le (Nat.le_max_right _ _)) (Nat.le_refl _) _ _ _ _ k2
  ·rename_i hne
   obtain ⟨n1,k1⟩:=iha _ _ _ hd
   refine ⟨n1,?_⟩
   simp only [gcode]
   rw [k1]
   split
   ·rename_i h1
    cases h1
    exact absurd hd (hne _ _)
   ·rfl
 |cond c a b iha ihb=>
  intro fr H r hd
  simp only [gcode] at hd ⊢
  split at hd
  ·exact iha _ _ _ hd
  ·exact ihb _ _ _ hd
  ·cases hd
 |block id a iha=>
  intro fr H r hd
  simp only [gcode] at hd
  split at hd
  ·rename_i h1
   obtain ⟨n1,k1⟩:=iha _ _ _ h1
   refine ⟨n1,?_⟩
   simp only [gcode]
   rw [k1];exact hd
  ·rename_i hne
   obtain ⟨n1,k1⟩:=iha _ _ _ hd
   refine ⟨n1,?_⟩
   simp only [gcode]
   rw [k1]
   split
   ·rename_i h1
    cases h1
    exact absurd hd (hne _ _ _)
   ·rfl
 |loop a iha=>
  intro fr H r hd
  simp only [gcode] at hd ⊢
  exact gloop_fin (body:=fun c=>gcode c m a) (fun _ _ h fr H r=>gcode_mono h (Nat.le_refl _) a fr H r) iha _ _ _ _ hd
theorem gbody_fin {m:Nat} {g:GFun} {args:List Value} {H:GHeap} {r:Value × GHeap} (hd:gbody (gev G) m g args H=some r):∃ n,gbody (gat G n) m g args H=some r:=by
 unfold gbody at hd
 split at hd
 ·rename_i f1 H1 h1
  obtain ⟨n,k⟩:=gcode_fin m _ _ _ _ h1
  exact ⟨n,by unfold gbody;rw [k];exact hd⟩
 ·rename_i f1 H1 h1
  obtain ⟨n,k⟩:=gcode_fin m _ _ _ _ h1
  exact ⟨n,by unfold gbody;rw [k];exact hd⟩
 ·cases hd
theorem gev_fn {f:FuncId} {g:GFun} (hG:G f=some (.fn g)) {m:Nat} {args:List Value} {H:GHeap} {r:Value × GHeap} (hd:gbody (gev G) m g args H=some r):gev G f args H=some r:=by
 obtain ⟨n,h⟩:=gbody_fin hd
 refine gev_some.2 ⟨max n m+1,?_⟩
 simp only [gcall,hG]
 exact gbody_mono (gcall_mono _ _ _ _ (by omega) (by omega)) (by omega) h
theorem gev_lib {f:FuncId} {run:List Value→Option Value} (hG:G f=some (.lib run)) {args:List Value} {H:GHeap} {v:Value} (ha:args.all litOk=true) (hr:run args=some v) (hv:litVal v=true):gev G f args H=some (v,H):=by
 refine gev_some.2 ⟨1,?_⟩
 simp only [gcall,hG]
 rw [if_pos ha,hr]
 simp only
 rw [if_pos hv]
theorem gev_ext {f:FuncId} {run:List Value→GHeap→Option (Value × GHeap)} (hG:G f=some (.ext run)) {args:List Value} {H:GHeap} {r:Value × GHeap} (hr:run args H=some r):gev G f args H=some r:=by
 refine gev_some.2 ⟨1,?_⟩
 simp only [gcall,hG]
 exact hr
theorem gev_pure {f:FuncId} {g:GFun} (hG:G f=some (.pure g)) {m:Nat} {args:List Value} {H H':GHeap} {v:Value} (ha:args.all litOk=true) (hv:litVal v=true) (hd:gbody (gev G) m g args (gRoot H)=some (v,H')):gev G f args H=some (v,H):=by
 obtain ⟨n,h⟩:=gbody_fin hd
 refine gev_some.2 ⟨max n m+1,?_⟩
 simp only [gcall,hG]
 rw [if_pos ha,gbody_mono (gcall_mono _ _ _ _ (by omega) (by omega)) (show m≤max n m+1 by omega) h]
 simp only
 rw [if_pos hv]
end
end Go.Gh
namespace Go.Gh
set_option linter.unusedVariables false
set_option linter.unusedSimpArgs false
open Go.RowKit
section
variable {call:GCall}
def gwp (call:GCall) (c:GCode) (Q:GExit→Fr→GHeap→Prop) (fr:Fr) (H:GHeap):Prop:=
 ∃ m e fr' H',gcode call m c fr H=some (e,fr',H')∧Q e fr' H'
def gthen (K:Fr→GHeap→Prop) (Q:GExit→Fr→GHeap→Prop):GExit→Fr→GHeap→Prop
 |.normal,fr,H=>K fr H
 |e,fr,H=>Q e fr H
def ginBlock (id:Nat) (Q:GExit→Fr→GHeap→Prop):GExit→Fr→GHeap→Prop
 |.exit id',fr,H=>if id'=id then Q .normal fr H else Q (.exit id') fr H
 |e,fr,H=>Q e fr H
def gbr:Option Bool→Prop→Prop→Prop
 |some b,A,B=>(b=true→A)∧(b=false→B)
 |none,_,_=>False
def gone1:Option (Value × GHeap)→(Value→GHeap→Prop)→Prop
 |some r,K=>K r.1 r.2
 |none,_=>False
def gws (run:Fr→GHeap→GOp→Option (Value × GHeap)):List GOper→(Fr→GHeap→Prop)→Fr→GHeap→Prop
 |[],K,fr,H=>K fr H
 |o :: r,K,fr,H=>gbr (gwants fr o.guard) (gone1 (run fr H o.op) fun v H'=>gws run r K (gput fr o.dst v) H') (gws run r K (gput fr o.dst undef) H)
theorem gws_ok {run:Fr→GHeap→GOp→Option (Value × GHeap)}:∀ {l:List GOper} {K:Fr→GHeap→Prop} {fr:Fr} {H:GHeap},gws run l K fr H→∃ fr' H',gsteps run l fr H=some (fr',H')∧K fr' H'
 |[],K,fr,H,h=>⟨fr,H,rfl,h⟩
 |o :: r,K,fr,H,h=>by
  simp only [gws] at h
  simp only [gsteps]
  cases hw:gwants fr o.guard with
  |none=>rw [hw] at h;exact h.elim
  |some b=>
   rw [hw] at h
   cases b with
   |true=>
    have h:=h.1 rfl
    simp only
    cases hr:run fr H o.op with
    |none=>rw [hr] at h;exact h.elim
    |some x=>rw [hr] at h;exact gws_ok h
   |false=>exact gws_ok (h.2 rfl)
def gwq (call:GCall):List (Bool × GOper)→(Fr→GHeap→Prop)→Fr→GHeap→Prop
 |[],K,fr,H=>K fr H
 |(e,o) :: r,K,fr,H=>gbr (gwants fr o.guard) ((e=true→aims fr [] o.op=true)∧gone1 (gdoE call [] e fr H o.op) fun v H'=>gwq call r K (gput fr o.dst v) H') (gwq call r K (gput fr o.dst undef) H)
theorem gwq_ok:∀ {l:List (Bool × GOper)} {K:Fr→GHeap→Prop} {fr:Fr} {H:GHeap},gwq call l K fr H→∃ fr' H',gpost call [] l fr H=some (fr',H')∧K fr' H'
 |[],K,fr,H,h=>⟨fr,H,rfl,h⟩
 |(e,o) :: r,K,fr,H,h=>by
  simp only [gwq] at h
  simp only [gpost]
  cases hw:gwants fr o.guard with
  |none=>rw [hw] at h;exact h.elim
  |some b=>
   rw [hw] at h
   cases b with
   |true=>
    obtain ⟨he,h⟩:=h.1 rfl
    simp only
    rw [if_neg (by cases e<;>simp_all)]
    cases hr:gdoE call [] e fr H o.op with
    |none=>rw [hr] at h;exact h.elim
    |some x=>rw [hr] at h;exact gwq_ok h
   |false=>exact gwq_ok (h.2 rfl)
variable {Q:GExit→Fr→GHeap→Prop} {fr:Fr} {H:GHeap}
theorem gwp_mono {c:GCode} {Q':GExit→Fr→GHeap→Prop} (h:gwp call c Q fr H) (k:∀ e fr H,Q e fr H→Q' e fr H):gwp call c Q' fr H:=by
 obtain ⟨m,e,f1,H1,h1,h2⟩:=h
 exact ⟨m,e,f1,H1,h1,k _ _ _ h2⟩
theorem gwp_skip (h:Q .normal fr H):gwp call .skip Q fr H:=⟨0,_,_,_,rfl,h⟩
theorem gwp_exit {id:Nat} (h:Q (.exit id) fr H):gwp call (.exit id) Q fr H:=⟨0,_,_,_,rfl,h⟩
theorem gwp_ret (h:Q .ret fr H):gwp call .ret Q fr H:=⟨0,_,_,_,rfl,h⟩
theorem gwp_line {l:List GOper} (h:gws (gdo call) l (Q .normal) fr H):gwp call (.line l) Q fr H:=by
 obtain ⟨f1,H1,h1,h2⟩:=gws_ok h
 exact ⟨0,.normal,f1,H1,by simp only [gcode];rw [h1],h2⟩
theorem gwp_any {pre:List GOper} {post:List (Bool × GOper)} (h:gws (gdoM call) pre (gwq call post (Q .normal)) fr H):gwp call (.any [] pre post) Q fr H:=by
 obtain ⟨f1,H1,h1,h2⟩:=gws_ok h
 obtain ⟨f2,H2,h3,h4⟩:=gwq_ok h2
 refine ⟨0,.normal,f2,H2,?_,h4⟩
 simp only [gcode,gany,hidden,List.flatMap_nil,List.filter_nil,ghide]
 rw [h1]
 simp only [gback]
 rw [h3]
theorem gwp_seq {a b:GCode} (h:gwp call a (gthen (gwp call b Q) Q) fr H):gwp call (.seq a b) Q fr H:=by
 obtain ⟨m,e,f1,H1,h1,h2⟩:=h
 cases e with
 |normal=>
  obtain ⟨m',e2,f2,H2,h3,h4⟩:=h2
  refine ⟨max m m',e2,f2,H2,?_,h4⟩
  simp only [gcode]
  rw [gcode_mono (CLe.refl call) (Nat.le_max_left m m') _ _ _ _ h1]
  exact gcode_mono (CLe.refl call) (Nat.le_max_right m m') _ _ _ _ h3
 |exit id=>exact ⟨m,_,f1,H1,by simp only [gcode];rw [h1],h2⟩
 |ret=>exact ⟨m,_,f1,H1,by simp only [gcode];rw [h1],h2⟩
 |goto l=>exact ⟨m,_,f1,H1,by simp only [gcode];rw [h1],h2⟩
theorem gwp_cond {c:GArg} {a b:GCode} {t:Bool} (hc:c.ev fr=some (.bool t)) (h1:t=true→gwp call a Q fr H) (h2:t=false→gwp call b Q fr H):gwp call (.cond c a b) Q fr H:=by
 cases t with
 |true=>
  obtain ⟨m,e,f1,H1,h3,h4⟩:=h1 rfl
  exact ⟨m,e,f1,H1,by simp only [gcode];rw [hc];exact h3,h4⟩
 |false=>
  obtain ⟨m,e,f1,H1,h3,h4⟩:=h2 rfl
  exact ⟨m,e,f1,H1,by simp only [gcode];rw [hc];exact h3,h4⟩
theorem gwp_block {id:Nat} {a:GCode} (h:gwp call a (ginBlock id Q) fr H):gwp call (.block id a) Q fr H:=by
 obtain ⟨m,e,f1,H1,h1,h2⟩:=h
 cases e with
 |normal=>exact ⟨m,_,f1,H1,by simp only [gcode];rw [h1],h2⟩
 |ret=>exact ⟨m,_,f1,H1,by simp only [gcode];rw [h1],h2⟩
 |goto l=>exact ⟨m,_,f1,H1,by simp only [gcode];rw [h1],h2⟩
 |exit id'=>
  by_cases hid:id'=id
  ·have h2:(if id'=id then Q .normal f1 H1 else Q (.exit id') f1 H1):=h2
   rw [if_pos hid] at h2
   exact ⟨m,_,f1,H1,by simp only [gcode];rw [h1];simp only;rw [if_pos hid],h2⟩
  ·have h2:(if id'=id then Q .normal f1 H1 else Q (.exit id') f1 H1):=h2
   rw [if_neg hid] at h2
   exact ⟨m,_,f1,H1,by simp only [gcode];rw [h1];simp only;rw [if_neg hid],h2⟩
theorem gwp_loop {a:GCode} (I:Nat→Fr→GHeap→Prop) (hs:∀ k fr H,I k fr H→gwp call a (gthen (fun fr H=>∃ j,j < k∧I j fr H) Q) fr H) (k:Nat) (h:I k fr H):gwp call (.loop a) Q fr H:=by
 have key:∀ k fr H,I k fr H→∃ m n e fr' H',gloop (gcode call m a) n fr H=some (e,fr',H')∧Q e fr' H':=by
  intro k
  induction k using Nat.strongRecOn with
  |_ k ih=>
   intro fr H h
   obtain ⟨m,e,f1,H1,h1,h2⟩:=hs k fr H h
   cases e with
   |normal=>
    obtain ⟨j,hj,hI⟩:=h2
    obtain ⟨m',n,e2,f2,H2,h3,h4⟩:=ih j hj _ _ hI
    refine ⟨max m m',n+1,e2,f2,H2,?_,h4⟩
    simp only [gloop]
    rw [gcode_mono (CLe.refl call) (Nat.le_max_left m m') _ _ _ _ h1]
    exact gloop_mono (gcode_mono (CLe.refl call) (Nat.le_max_right m m') a) _ _ (Nat.le_refl _) _ _ _ h3
   |exit id=>exact ⟨m,1,_,f1,H1,by simp only [gloop];rw [h1],h2⟩
   |ret=>exact ⟨m,1,_,f1,H1,by simp only [gloop];rw [h1],h2⟩
   |goto l=>exact ⟨m,1,_,f1,H1,by simp only [gloop];rw [h1],h2⟩
 obtain ⟨m,n,e,f1,H1,h1,h2⟩:=key k fr H h
 refine ⟨max m n,e,f1,H1,?_,h2⟩
 simp only [gcode]
 exact gloop_mono (gcode_mono (CLe.refl call) (Nat.le_max_left m n) a) _ _ (Nat.le_max_right m n) _ _ _ h1
end
def gfin (rets:List GRet) (R:Value→GHeap→Prop):GExit→Fr→GHeap→Prop
 |.normal,fr,H|.ret,fr,H=>∃ l,gresults fr H rets=some l∧R (gone l) H
 |_,_,_=>False
theorem gbody_of {call:GCall} {g:GFun} {args:List Value} {H:GHeap} {R:Value→GHeap→Prop} (h:gwp call g.body (gfin g.rets R) (frameOf 0 args .nil) H):∃ m v H',gbody call m g args H=some (v,H')∧R v H':=by
 obtain ⟨m,e,f1,H1,h1,h2⟩:=h
 cases e with
 |normal=>
  obtain ⟨l,h3,h4⟩:=h2
  exact ⟨m,gone l,H1,by unfold gbody;rw [h1];simp only;rw [h3];rfl,h4⟩
 |ret=>
  obtain ⟨l,h3,h4⟩:=h2
  exact ⟨m,gone l,H1,by unfold gbody;rw [h1];simp only;rw [h3];rfl,h4⟩
 |exit id=>exact h2.elim
 |goto l=>exact h2.elim
theorem gev_of {G:FuncId→Option GEnt} {f:FuncId} {g:GFun} (hG:G f=some (.fn g)) {args:List Value} {H:GHeap} {R:Value→GHeap→Prop} (h:gwp (gev G) g.body (gfin g.rets R) (frameOf 0 args .nil) H):∃ v H',gev G f args H=some (v,H')∧R v H':=by
 obtain ⟨m,v,H',h1,h2⟩:=gbody_of h
 exact ⟨v,H',gev_fn hG h1,h2⟩
end Go.Gh
namespace Go.Gh
set_option linter.unusedVariables false
set_option linter.unusedSimpArgs false
open Go.RowKit
section
variable {call:GCall} {fr:Fr} {H:GHeap} {K:Value→GHeap→Prop}
theorem gwants_none:gwants fr none=some true:=rfl
theorem gdo_m {op:GOp} (h1:writes op=false) (h2:isCall op=false):gdo call fr H op=(gopM fr H op).bind fun r=>some (r.1,H.add r.2):=by
 unfold gdo
 split
 ·simp [isCall] at h2
 ·rw [if_neg (by simp [h1])]
  cases gopM fr H op<;>rfl
theorem gdo_w {op:GOp} (h1:writes op=true):gdo call fr H op=gopW fr H op:=by
 unfold gdo
 split
 ·simp [writes] at h1
 ·rw [if_pos h1]
theorem gdoM_m {op:GOp} (h2:isCall op=false):gdoM call fr H op=(gopM fr H op).bind fun r=>some (r.1,H.add r.2):=by
 unfold gdoM
 split
 ·simp [isCall] at h2
 ·cases gopM fr H op<;>rfl
theorem add_none:H.add none=H:=rfl
theorem gd_move {x:GArg}:gdo call fr H (.move x)=(x.ev fr).bind fun v=>some (v,H):=by rw [gdo_m rfl rfl];simp only [gopM];cases x.ev fr<;>rfl
theorem gd_pick {c a b:GArg}:gdo call fr H (.pick c a b)=match c.ev fr with
 |some (.bool t)=>(if t then a.ev fr else b.ev fr).bind fun v=>some (v,H)
 |_=>none:=by
 rw [gdo_m rfl rfl];simp only [gopM]
 generalize c.ev fr=cv
 split
 ·rename_i t
  simp only
  generalize (if t=true then a.ev fr else b.ev fr)=r
  cases r<;>rfl
 ·rename_i hne
  split
  ·rename_i t
   exact absurd rfl (hne t)
  ·rfl
theorem gd_alloc {u:Nat} {z:List Value}:gdo call fr H (.alloc u z)=some (.pointer (some ⟨H.len,0,none⟩),H.add (some (.cells z u true))):=rfl
theorem gd_load {k:Option Nat} {a:GArg}:gdo call fr H (.load k a)=(a.ev fr).bind fun v=>(gld k H v).bind fun r=>some (r,H):=by
 rw [gdo_m rfl rfl];simp only [gopM];cases a.ev fr with
 |none=>rfl
 |some v=>simp only [Option.bind_some];cases gld k H v<;>rfl
theorem gd_bin {op:BinOp} {e:Option EqK} {x y:GArg}:gdo call fr H (.bin op e x y)=(x.ev fr).bind fun a=>(y.ev fr).bind fun b=>(gbin op e a b).bind fun r=>some (r,H):=by
 rw [gdo_m rfl rfl];simp only [gopM];cases x.ev fr with
 |none=>rfl
 |some v=>
  simp only [Option.bind_some]
  cases y.ev fr with
  |none=>rfl
  |some u=>simp only [Option.bind_some];cases gbin op e v u<;>rfl
theorem gd_fa {n:Nat} {x:GArg}:gdo call fr H (.fa n x)=(x.ev fr).bind fun v=>(gadd n v).bind fun r=>some (r,H):=by
 rw [gdo_m rfl rfl];simp only [gopM];cases x.ev fr with
 |none=>rfl
 |some v=>simp only [Option.bind_some];cases gadd n v<;>rfl
theorem gd_ia {l:Option Nat} {n:Nat} {x i:GArg}:gdo call fr H (.ia l n x i)=(x.ev fr).bind fun v=>(i.ev fr).bind fun j=>(gia l n v j).bind fun r=>some (r,H):=by
 rw [gdo_m rfl rfl];simp only [gopM];cases x.ev fr with
 |none=>rfl
 |some v=>
  simp only [Option.bind_some]
  cases i.ev fr with
  |none=>rfl
  |some u=>simp only [Option.bind_some];cases gia l n v u<;>rfl
theorem gd_len {s:Bool} {x:GArg}:gdo call fr H (.len s x)=(x.ev fr).bind fun v=>(glen s v).bind fun r=>some (r,H):=by
 rw [gdo_m rfl rfl];simp only [gopM];cases x.ev fr with
 |none=>rfl
 |some v=>simp only [Option.bind_some];cases glen s v<;>rfl
theorem gd_store {k:Option Nat} {p x:GArg}:gdo call fr H (.store k p x)=(p.ev fr).bind fun p=>(x.ev fr).bind fun v=>(gst k H p v).bind fun H'=>some (undef,H'):=by
 rw [gdo_w rfl];simp only [gopW];cases p.ev fr with
 |none=>rfl
 |some v=>
  simp only [Option.bind_some]
  cases x.ev fr with
  |none=>rfl
  |some u=>simp only [Option.bind_some];cases gst k H v u<;>rfl
theorem gd_ix {q:Option (Nat × Nat × Option Nat)} {x i:GArg}:gdo call fr H (.ix q x i)=(x.ev fr).bind fun v=>(i.ev fr).bind fun j=>(gix q v j).bind fun r=>some (r,H):=by
 rw [gdo_m rfl rfl];simp only [gopM];cases x.ev fr with
 |none=>rfl
 |some v=>
  simp only [Option.bind_some]
  cases i.ev fr with
  |none=>rfl
  |some u=>simp only [Option.bind_some];cases gix q v u<;>rfl
theorem gd_fld {o:Nat} {k:Option Nat} {x:GArg}:gdo call fr H (.fld o k x)=(x.ev fr).bind fun v=>(gpart k o v).bind fun r=>some (r,H):=by
 rw [gdo_m rfl rfl];simp only [gopM];cases x.ev fr with
 |none=>rfl
 |some v=>simp only [Option.bind_some];cases gpart k o v<;>rfl
theorem gd_un {op:UnOp} {x:GArg}:gdo call fr H (.un op x)=(x.ev fr).bind fun a=>(gun op a).bind fun r=>some (r,H):=by
 rw [gdo_m rfl rfl];simp only [gopM];cases x.ev fr with
 |none=>rfl
 |some v=>simp only [Option.bind_some];cases gun op v<;>rfl
theorem gd_cap {x:GArg}:gdo call fr H (.cap x)=(x.ev fr).bind fun v=>(gcap v).bind fun r=>some (r,H):=by
 rw [gdo_m rfl rfl];simp only [gopM];cases x.ev fr with
 |none=>rfl
 |some v=>simp only [Option.bind_some];cases gcap v<;>rfl
theorem gd_conv {q:CvK} {x:GArg}:gdo call fr H (.conv q x)=(x.ev fr).bind fun v=>(gconv q H v).bind fun r=>some (r.1,H.add r.2):=by
 rw [gdo_m rfl rfl];simp only [gopM];cases x.ev fr<;>rfl
theorem gd_mk {z:List Value} {b u:Nat} {l c:GArg}:gdo call fr H (.mk z b u l c)=(l.ev fr).bind fun x=>(c.ev fr).bind fun y=>(gmake z b u H x y).bind fun r=>some (r.1,H.add r.2):=by
 rw [gdo_m rfl rfl];simp only [gopM];cases l.ev fr with
 |none=>rfl
 |some v=>
  simp only [Option.bind_some]
  cases c.ev fr<;>rfl
theorem gd_app {size bytes u:Nat} {s x:GArg}:gdo call fr H (.app size bytes u s x)=(s.ev fr).bind fun s=>(x.ev fr).bind fun x=>gapp size bytes u H s x:=by
 rw [gdo_w rfl];rfl
theorem gd_appZ {size bytes u:Nat} {z:List Value} {s x:GArg}:gdo call fr H (.appZ size bytes u z s x)=(s.ev fr).bind fun s=>(x.ev fr).bind fun x=>gappZ size bytes u z H s x:=by
 rw [gdo_w rfl];rfl
theorem gd_keep {x:GArg}:gdo call fr H (.keep x)=(x.ev fr).bind fun v=>gkeep H v:=by
 rw [gdo_w rfl];rfl
theorem gd_copy {size:Nat} {d x:GArg}:gdo call fr H (.copy size d x)=(d.ev fr).bind fun d=>(x.ev fr).bind fun x=>gcopy size H d x:=by
 rw [gdo_w rfl];rfl
theorem gd_next {x:GArg}:gdo call fr H (.next x)=(x.ev fr).bind (gnext H):=by
 rw [gdo_w rfl];rfl
theorem gd_call {f:GArg} {xs:List GArg}:gdo call fr H (.call f xs)=(gtarget fr f xs).bind fun r=>call r.1 r.2 H:=rfl
theorem gd_fn {f:FuncId} {a b:List GArg}:gdo call fr H (.fn f a b)=(evs fr a).bind fun l=>(evs fr b).bind fun m=>some (.func (.func f) l.toArray m.toArray,H):=by
 rw [gdo_m rfl rfl];simp only [gopM];cases evs fr a with
 |none=>rfl
 |some v=>
  simp only [Option.bind_some]
  cases evs fr b<;>rfl
theorem gb_lss {k:IntKind} {e:Option EqK} {a b:Int}:gbin .lss e (.int k a) (.int k b)=some (.bool (decide (a < b))):=by simp [gbin,gint]
theorem gb_gtr {k:IntKind} {e:Option EqK} {a b:Int}:gbin .gtr e (.int k a) (.int k b)=some (.bool (decide (b < a))):=by simp [gbin,gint]
theorem gb_leq {k:IntKind} {e:Option EqK} {a b:Int}:gbin .leq e (.int k a) (.int k b)=some (.bool (decide (a≤b))):=by simp [gbin,gint]
theorem gb_geq {k:IntKind} {e:Option EqK} {a b:Int}:gbin .geq e (.int k a) (.int k b)=some (.bool (decide (b≤a))):=by simp [gbin,gint]
theorem gb_add {k:IntKind} {e:Option EqK} {a b:Int}:gbin .add e (.int k a) (.int k b)=some (.int k (k.wrap (a+b))):=by simp [gbin,gint]
theorem gb_sub {k:IntKind} {e:Option EqK} {a b:Int}:gbin .sub e (.int k a) (.int k b)=some (.int k (k.wrap (a - b))):=by simp [gbin,gint]
theorem gb_eql {k:IntKind} {e:Option EqK} {a b:Int}:gbin .eql e (.int k a) (.int k b)=some (.bool (a == b)):=by simp [gbin,gint]
theorem gb_neq {k:IntKind} {e:Option EqK} {a b:Int}:gbin .neq e (.int k a) (.int k b)=some (.bool (a != b)):=by simp [gbin,gint]
theorem gia_sl {n:Nat} {b o L gc:Nat} {k:IntKind} {j:Int} (h0:0≤j) (h1:j < L):gia none n (.slice (some ⟨b,o,none⟩) L gc) (.int k j)=some (.pointer (some ⟨b,o+j.toNat * n,none⟩)):=by simp [gia,h0,h1]
theorem gadd_ptr {n i o:Nat}:gadd n (.pointer (some ⟨i,o,none⟩))=some (.pointer (some ⟨i,o+n,none⟩)):=rfl
theorem glen_sl {a:Option Addr} {n c:Nat}:glen false (.slice a n c)=some (.int .i64 n):=rfl
theorem glen_str {s:ByteArray}:glen true (.string s)=some (.int .i64 s.size):=rfl
end
section
variable {run:Fr→GHeap→GOp→Option (Value × GHeap)} {fr:Fr} {H:GHeap} {r:List GOper} {K:Fr→GHeap→Prop}
structure G1 (x:Option (Value × GHeap)) (K:Value→GHeap→Prop):Prop where
 ok:gone1 x K
structure Gb (c:Option Bool) (A B:Prop):Prop where
 ok:gbr c A B
structure Gw (run:Fr→GHeap→GOp→Option (Value × GHeap)) (l:List GOper) (K:Fr→GHeap→Prop) (fr:Fr) (H:GHeap):Prop where
 ok:gws run l K fr H
end
end Go.Gh
namespace Go.Gh
set_option linter.unusedVariables false
set_option linter.unusedSimpArgs false
open Go.RowKit
section
variable {H H' H0:GHeap}
def csOf:GObj→Option (List Value)
 |.cells cs _ _=>some cs
 |_=>none
theorem cs_put (i j:Nat) (o:GObj):(H.put i o).cs j=if i=j then csOf o else H.cs j:=by
 unfold GHeap.cs
 rw [obj_put]
 by_cases h:i=j
 ·simp only [h,if_true];cases o<;>rfl
 ·simp only [h,if_false]
theorem cs_add (j:Nat) (o:GObj):(H.add (some o)).cs j=if H.len=j then csOf o else H.cs j:=by
 unfold GHeap.cs
 rw [obj_add]
 by_cases h:H.len=j
 ·simp only [h,if_true];cases o<;>rfl
 ·simp only [h,if_false]
theorem Same.cs (h:Same H H') {i:Nat} (hi:i < H.len):H'.cs i=H.cs i:=by unfold GHeap.cs;rw [h.obj i hi]
theorem Same.add (h:Same H0 H) (o:GObj):Same H0 (H.add (some o)):=by
 have hF:=Fwd.add h.wf (some o)
 refine ⟨hF.lim.trans h.lim,Nat.le_trans h.len hF.len,fun i hi=>?_,hF.wf h.wf⟩
 rw [obj_add,if_neg (by have:=h.len;omega)]
 exact h.obj i hi
theorem Same.put (h:Same H0 H) {i:Nat} (h1:H0.len≤i) (h2:i < H.len) (o:GObj):Same H0 (H.put i o):=by
 refine ⟨h.lim,h.len,fun j hj=>?_,⟨h.wf.1,fun j=>?_⟩⟩
 ·rw [obj_put,if_neg (by omega)];exact h.obj j hj
 ·rw [obj_put]
  by_cases hij:i=j
  ·subst hij;simp;exact h2
  ·rw [if_neg hij];exact h.wf.2 j
theorem gst_new {n i:Nat} {z:List Value} {u:Nat} {vs:Array Value} (hl:H.lim≤i) (ho:H.obj i=some (.cells z u true)) (hz:z.length=n) (hv:vs.size=n) (hf:vs.all flatV=true):
 gst (some n) H (.pointer (some ⟨i,0,none⟩)) (.agg vs)=some (H.put i (.cells vs.toList u true)):=by
 have:z.drop n=[]:=by rw [← hz];simp
 simp only [gst,GHeap.mine,hl,ho,if_true]
 rw [if_pos ⟨hv,by omega,hf⟩]
 simp [this]
theorem gst_add {n:Nat} {z:List Value} {u:Nat} {vs:Array Value} (hw:H.wf) (hz:z.length=n) (hv:vs.size=n) (hf:vs.all flatV=true):
 gst (some n) (H.add (some (.cells z u true))) (.pointer (some ⟨H.len,0,none⟩)) (.agg vs)=some ((H.add (some (.cells z u true))).put H.len (.cells vs.toList u true)):=
 gst_new (H:=H.add (some (.cells z u true))) hw.1 (by rw [obj_add];simp) hz hv hf
theorem Same.new (h:Same H0 H) (o o':GObj):Same H0 ((H.add (some o)).put H.len o'):=(h.add o).put h.len (by simp [GHeap.add]) o'
theorem gld_cell {i o:Nat} {cs:List Value} (h:H.cs i=some cs):gld none H (.pointer (some ⟨i,o,none⟩))=cs[o]?:=by simp [gld,h]
theorem gld_part {i o n:Nat} {cs:List Value} (h:H.cs i=some cs) (hn:o+n≤cs.length):gld (some n) H (.pointer (some ⟨i,o,none⟩))=some (.agg ((cs.drop o).take n).toArray):=by simp [gld,h,hn]
def GRd (H:GHeap) (size:Nat) (v:Value) (n:Nat) (xs:List Value):Prop:=
 xs.length=n * size∧∃ a gc,v=.slice a n gc∧(0 < n→∃ i o cs,a=some ⟨i,o,none⟩∧i < H.len∧H.cs i=some cs∧∀ j u,xs[j]? =some u→cs[o+j]? =some u)
theorem GRd.same {size n:Nat} {v:Value} {xs:List Value} (h:GRd H size v n xs) (hs:Same H H'):GRd H' size v n xs:=by
 obtain ⟨h1,a,gc,h2,h3⟩:=h
 refine ⟨h1,a,gc,h2,fun hn=>?_⟩
 obtain ⟨i,o,cs,k1,k2,k3,k4⟩:=h3 hn
 exact ⟨i,o,cs,k1,Nat.lt_of_lt_of_le k2 hs.len,by rw [hs.cs k2];exact k3,k4⟩
theorem GRd.len {size n:Nat} {v:Value} {xs:List Value} (h:GRd H size v n xs):glen false v=some (.int .i64 n):=by
 obtain ⟨_,a,gc,rfl,_⟩:=h;rfl
theorem drop_take_eq {xs cs:List Value} {o k n:Nat} (hx:k+n≤xs.length) (h:∀ (j:Nat) u,xs[j]? =some u→cs[o+j]? =some u):(cs.drop (o+k)).take n=(xs.drop k).take n∧(n≠0→o+k+n≤cs.length):=by
 constructor
 ·refine List.ext_getElem? fun j=>?_
  by_cases hj:j < n
  ·rw [List.getElem?_take_of_lt hj,List.getElem?_take_of_lt hj,List.getElem?_drop,List.getElem?_drop]
   have h1:=List.getElem?_eq_getElem (show k+j < xs.length by omega)
   rw [h1,Nat.add_assoc]
   exact h _ _ h1
  ·rw [List.getElem?_take_eq_none (by omega),List.getElem?_take_eq_none (by omega)]
 ·intro hn
  have h1:=List.getElem?_eq_getElem (show k+(n - 1) < xs.length by omega)
  have:=(List.getElem?_eq_some_iff.1 (h _ _ h1)).1
  omega
theorem GRd.at_ {size n:Nat} {v:Value} {xs:List Value} (h:GRd H size v n xs) (hs:0 < size) {k:Nat} (hk:k < n):
 ∃ i o,i < H.len∧(∀ (kd:IntKind) (z:Int),z=k→gia none size v (.int kd z)=some (.pointer (some ⟨i,o,none⟩)))∧gld (some size) H (.pointer (some ⟨i,o,none⟩))=some (.agg ((xs.drop (k * size)).take size).toArray)∧
  ∀ j u,xs[k * size+j]? =some u→gld none H (.pointer (some ⟨i,o+j,none⟩))=some u:=by
 obtain ⟨h1,a,gc,rfl,h3⟩:=h
 obtain ⟨i,o,cs,rfl,k2,k3,k4⟩:=h3 (by omega)
 have hx:k * size+size≤xs.length:=by rw [h1,← Nat.succ_mul];exact Nat.mul_le_mul_right _ hk
 obtain ⟨e1,e2⟩:=drop_take_eq (k:=k * size) (n:=size) hx k4
 refine ⟨i,o+k * size,k2,fun kd z hz=>?_,?_,fun j u hu=>?_⟩
 ·subst hz
  simp [gia,hk]
 ·rw [gld_part k3 (e2 (by omega)),e1]
 ·rw [gld_cell k3,Nat.add_assoc]
  exact k4 _ _ hu
end
end Go.Gh
namespace Go.Gh
set_option linter.unusedVariables false
set_option linter.unusedSimpArgs false
open Go.RowKit
namespace Tr
variable {α:Type}
theorem setF_self:∀ (k:Nat) (t:Tr α) (n:Nat) (x:α),n≤k→getF k t n=some x→setF k t n x=t:=by
 intro k
 induction k with
 |zero=>
  intro t n x hn h
  cases t with
  |nil=>simp [getF] at h
  |node l v r=>simp only [getF] at h;subst h;rfl
 |succ k ih=>
  intro t n x hn h
  cases t with
  |nil=>simp [getF] at h
  |node l v r=>
   simp only [getF] at h
   simp only [setF]
   cases h0:n == 0 with
   |true=>rw [h0] at h;simp only [cond_true] at h ⊢;rw [h]
   |false=>
    rw [h0] at h
    have:n≠0:=by simpa using h0
    cases h1:n % 2 == 1 with
    |true=>rw [h1] at h;simp only [cond_true,cond_false] at h ⊢;rw [ih _ _ _ (by omega) h]
    |false=>rw [h1] at h;simp only [cond_false] at h ⊢;rw [ih _ _ _ (by omega) h]
theorem set_self {t:Tr α} {n:Nat} {x:α} (h:t.get n=some x):t.set n x=t:=setF_self n t n x (Nat.le_refl _) h
end Tr
inductive Kt where
 |seq (c:GCode)
 |blk (id:Nat)
 |inv (I:Fr→GHeap→Prop)
section
variable {call:GCall}
def gpop (call:GCall) (R:Fr→GHeap→Prop):List Kt→GExit→Fr→GHeap→Prop
 |[],.normal,fr,H=>R fr H
 |[],.ret,fr,H=>R fr H
 |[],.exit _,_,_=>False
 |[],.goto _,_,_=>False
 |.seq c :: ks,.normal,fr,H=>gwp call c (gpop call R ks) fr H
 |.seq _ :: ks,e,fr,H=>gpop call R ks e fr H
 |.blk _ :: ks,.normal,fr,H=>gpop call R ks .normal fr H
 |.blk _ :: ks,.ret,fr,H=>gpop call R ks .ret fr H
 |.blk _ :: ks,.goto l,fr,H=>gpop call R ks (.goto l) fr H
 |.blk i :: ks,.exit id,fr,H=>if id=i then gpop call R ks .normal fr H else gpop call R ks (.exit id) fr H
 |.inv I :: _,.normal,fr,H=>I fr H
 |.inv _ :: ks,e,fr,H=>gpop call R ks e fr H
structure GW (call:GCall) (c:GCode) (ks:List Kt) (R:Fr→GHeap→Prop) (fr:Fr) (H:GHeap):Prop where
 ok:gwp call c (gpop call R ks) fr H
structure GN (call:GCall) (ks:List Kt) (R:Fr→GHeap→Prop) (fr:Fr) (H:GHeap):Prop where
 ok:gpop call R ks .normal fr H
structure GX (call:GCall) (id:Nat) (ks:List Kt) (R:Fr→GHeap→Prop) (fr:Fr) (H:GHeap):Prop where
 ok:gpop call R ks (.exit id) fr H
structure GR (rets:List GRet) (Post:Value→GHeap→Prop) (fr:Fr) (H:GHeap):Prop where
 ok:∃ l,gresults fr H rets=some l∧Post (gone l) H
variable {a b:GCode} {ks:List Kt} {R:Fr→GHeap→Prop} {fr:Fr} {H:GHeap} {id i:Nat} {I:Fr→GHeap→Prop}
theorem gpop_ret:∀ (ks:List Kt),R fr H→gpop call R ks .ret fr H
 |[],h=>h
 |.seq _ :: ks,h=>gpop_ret ks h
 |.blk _ :: ks,h=>gpop_ret ks h
 |.inv _ :: ks,h=>gpop_ret ks h
theorem GW_seq (h:GW call a (.seq b :: ks) R fr H):GW call (.seq a b) ks R fr H:=by
 refine ⟨gwp_seq (gwp_mono h.ok fun e fr H h=>?_)⟩
 cases e<;>exact h
theorem GW_block (h:GW call a (.blk id :: ks) R fr H):GW call (.block id a) ks R fr H:=by
 refine ⟨gwp_block (gwp_mono h.ok fun e fr H h=>?_)⟩
 cases e<;>exact h
theorem GW_skip (h:GN call ks R fr H):GW call .skip ks R fr H:=⟨gwp_skip h.ok⟩
theorem GW_exit (h:GX call id ks R fr H):GW call (.exit id) ks R fr H:=⟨gwp_exit h.ok⟩
theorem GW_ret (h:R fr H):GW call .ret ks R fr H:=⟨gwp_ret (gpop_ret ks h)⟩
theorem GN_seq (h:GW call b ks R fr H):GN call (.seq b :: ks) R fr H:=⟨h.ok⟩
theorem GN_blk (h:GN call ks R fr H):GN call (.blk id :: ks) R fr H:=⟨h.ok⟩
theorem GN_inv (h:I fr H):GN call (.inv I :: ks) R fr H:=⟨h⟩
theorem GN_nil (h:R fr H):GN call [] R fr H:=⟨h⟩
theorem GX_seq (h:GX call id ks R fr H):GX call id (.seq b :: ks) R fr H:=⟨h.ok⟩
theorem GX_inv (h:GX call id ks R fr H):GX call id (.inv I :: ks) R fr H:=⟨h.ok⟩
theorem GX_blk (h:GN call ks R fr H):GX call id (.blk id :: ks) R fr H:=⟨by
 show (if id=id then _ else _)
 rw [if_pos rfl];exact h.ok⟩
theorem GX_up (hi:Nat.beq id i=false) (h:GX call id ks R fr H):GX call id (.blk i :: ks) R fr H:=⟨by
 show (if id=i then _ else _)
 rw [if_neg (Nat.ne_of_beq_eq_false hi)];exact h.ok⟩
theorem GW_line {l:List GOper} (h:Gw (gdo call) l (GN call ks R) fr H):GW call (.line l) ks R fr H:=by
 refine ⟨gwp_line ?_⟩
 have key:∀ (l:List GOper) fr H,gws (gdo call) l (GN call ks R) fr H→gws (gdo call) l (gpop call R ks .normal) fr H:=by
  intro l
  induction l with
  |nil=>intro fr H h;exact h.ok
  |cons o r ih=>
   intro fr H h
   simp only [gws] at h ⊢
   cases hw:gwants fr o.guard with
   |none=>rw [hw] at h;exact h
   |some t=>
    rw [hw] at h
    refine ⟨fun ht=>?_,fun ht=>ih _ _ (h.2 ht)⟩
    have h:=h.1 ht
    cases hr:gdo call fr H o.op with
    |none=>rw [hr] at h;exact h
    |some x=>rw [hr] at h;exact ih _ _ h
 exact key _ _ _ h.ok
def qrow (l:List (Bool × GOper)):Option (List GOper):=
 match l with
 |[]=>some []
 |(false,o) :: r=>(qrow r).map (o :: ·)
 |(true,_) :: _=>none
theorem gwq_of_gws:∀ {l:List (Bool × GOper)} {l':List GOper} {K:Fr→GHeap→Prop} {fr:Fr} {H:GHeap},qrow l=some l'→gws (gdo call) l' K fr H→gwq call l K fr H
 |[],l',K,fr,H,hq,h=>by cases hq;exact h
 |(false,o) :: r,l',K,fr,H,hq,h=>by
  simp only [qrow,Option.map_eq_some_iff] at hq
  obtain ⟨l2,h2,rfl⟩:=hq
  simp only [gws] at h
  simp only [gwq]
  cases hw:gwants fr o.guard with
  |none=>rw [hw] at h;exact h
  |some t=>
   rw [hw] at h
   refine ⟨fun ht=>⟨fun e=>(by cases e),?_⟩,fun ht=>gwq_of_gws h2 (h.2 ht)⟩
   have h:=h.1 ht
   cases hr:gdo call fr H o.op with
   |none=>rw [hr] at h;exact h.elim
   |some x=>
    rw [hr] at h
    rw [gdoE_yes hr (fun e=>by cases e)]
    exact gwq_of_gws h2 h
 |(true,o) :: r,l',K,fr,H,hq,h=>by cases hq
theorem gws_mono {run:Fr→GHeap→GOp→Option (Value × GHeap)} {K K':Fr→GHeap→Prop} (hk:∀ fr H,K fr H→K' fr H):∀ (l:List GOper) fr H,gws run l K fr H→gws run l K' fr H:=by
 intro l
 induction l with
 |nil=>intro fr H h;exact hk _ _ h
 |cons o r ih=>
  intro fr H h
  simp only [gws] at h ⊢
  cases hw:gwants fr o.guard with
  |none=>rw [hw] at h;exact h
  |some t=>
   rw [hw] at h
   refine ⟨fun ht=>?_,fun ht=>ih _ _ (h.2 ht)⟩
   have h:=h.1 ht
   cases hr:run fr H o.op with
   |none=>rw [hr] at h;exact h
   |some x=>rw [hr] at h;exact ih _ _ h
theorem GW_any {pre l:List GOper} {post:List (Bool × GOper)} (hq:qrow post=some l) (h:Gw (gdoM call) pre (Gw (gdo call) l (GN call ks R)) fr H):GW call (.any [] pre post) ks R fr H:=by
 refine ⟨gwp_any (gws_mono (fun fr H h=>gwq_of_gws hq (gws_mono (fun fr H h=>h.ok) l fr H h.ok)) pre fr H h.ok)⟩
structure Gc (x:Option Value) (A B:Prop):Prop where
 ok:∃ t,x=some (.bool t)∧(t=true→A)∧(t=false→B)
theorem GW_cond {n:Nat} (h:∀ A B:Prop,(GW call a ks R (fr.set n (.bool true)) H→A)→(GW call b ks R (fr.set n (.bool false)) H→B)→Gc (fr.get n) A B):GW call (.cond (.t n) a b) ks R fr H:=by
 obtain ⟨t,h1,h2,h3⟩:=(h _ _ id id).ok
 refine ⟨gwp_cond (t:=t) h1 (fun ht=>?_) (fun ht=>?_)⟩
 ·subst ht;have:=(h2 rfl).ok;rwa [Tr.set_self h1] at this
 ·subst ht;have:=(h3 rfl).ok;rwa [Tr.set_self h1] at this
theorem GW_loop {a:GCode} (I:Nat→Fr→GHeap→Prop) (hs:∀ k fr H,I k fr H→∀ J:Fr→GHeap→Prop,(∀ fr H,(∃ j,j < k∧I j fr H)→J fr H)→GW call a (.inv J :: ks) R fr H) (k:Nat) (h:I k fr H):GW call (.loop a) ks R fr H:=by
 refine ⟨gwp_loop I (fun k fr H hI=>gwp_mono (hs k fr H hI _ fun _ _ h=>h).ok fun e fr H h=>?_) k h⟩
 cases e<;>exact h
variable {run:Fr→GHeap→GOp→Option (Value × GHeap)} {r:List GOper} {K:Fr→GHeap→Prop} {op:GOp} {d g:Nat} {t:Bool}
theorem Gw_s (h:∀ K':Value→GHeap→Prop,(∀ v H',Gw run r K (fr.set d v) H'→K' v H')→G1 (run fr H op) K'):Gw run (⟨some d,none,op⟩ :: r) K fr H:=by
 refine ⟨⟨fun _=>?_,fun e=>(by cases e)⟩⟩
 have h:=(h _ fun _ _ h=>h).ok
 show gone1 (run fr H op) _
 cases hr:run fr H op with
 |none=>rw [hr] at h;exact h.elim
 |some x=>rw [hr] at h;exact h.ok
theorem Gw_0 (h:∀ K':Value→GHeap→Prop,(∀ v H',Gw run r K fr H'→K' v H')→G1 (run fr H op) K'):Gw run (⟨none,none,op⟩ :: r) K fr H:=by
 refine ⟨⟨fun _=>?_,fun e=>(by cases e)⟩⟩
 have h:=(h _ fun _ _ h=>h).ok
 show gone1 (run fr H op) _
 cases hr:run fr H op with
 |none=>rw [hr] at h;exact h.elim
 |some x=>rw [hr] at h;exact h.ok
theorem Gw_gs (h:∀ A B:Prop,((∀ K':Value→GHeap→Prop,(∀ v H',Gw run r K ((fr.set g (.bool t)).set d v) H'→K' v H')→G1 (run (fr.set g (.bool t)) H op) K')→A)→(Gw run r K ((fr.set g (.bool !t)).set d undef) H→B)→Gc (fr.get g) A B) (ht:t=true):Gw run (⟨some d,some (g,t),op⟩ :: r) K fr H:=by
 subst ht
 obtain ⟨c,h1,h2,h3⟩:=(h _ _ id id).ok
 have hw:gwants fr (some (g,true))=some c:=by simp [gwants,h1]
 refine ⟨?_⟩
 simp only [gws]
 rw [hw]
 refine ⟨fun hc=>?_,fun hc=>?_⟩
 ·subst hc
  have h:=h2 rfl
  rw [Tr.set_self h1] at h
  have h:=(h _ fun _ _ h=>h).ok
  cases hr:run fr H op with
  |none=>rw [hr] at h;exact h.elim
  |some x=>rw [hr] at h;exact h.ok
 ·subst hc
  have h:=h3 rfl
  simp only [Bool.not_true] at h
  rw [Tr.set_self h1] at h
  exact h.ok
theorem Gw_gf (h:∀ A B:Prop,(Gw run r K ((fr.set g (.bool true)).set d undef) H→A)→((∀ K':Value→GHeap→Prop,(∀ v H',Gw run r K ((fr.set g (.bool false)).set d v) H'→K' v H')→G1 (run (fr.set g (.bool false)) H op) K')→B)→Gc (fr.get g) A B):Gw run (⟨some d,some (g,false),op⟩ :: r) K fr H:=by
 obtain ⟨c,h1,h2,h3⟩:=(h _ _ id id).ok
 have hw:gwants fr (some (g,false))=some (!c):=by simp [gwants,h1]
 refine ⟨?_⟩
 simp only [gws]
 rw [hw]
 refine ⟨fun hc=>?_,fun hc=>?_⟩
 ·have hc:c=false:=by cases c<;>simp_all
  subst hc
  have h:=h3 rfl
  rw [Tr.set_self h1] at h
  have h:=(h _ fun _ _ h=>h).ok
  cases hr:run fr H op with
  |none=>rw [hr] at h;exact h.elim
  |some x=>rw [hr] at h;exact h.ok
 ·have hc:c=true:=by cases c<;>simp_all
  subst hc
  have h:=h2 rfl
  rw [Tr.set_self h1] at h
  exact h.ok
theorem Gw_gt (h:∀ A B:Prop,((∀ K':Value→GHeap→Prop,(∀ v H',Gw run r K ((fr.set g (.bool true)).set d v) H'→K' v H')→G1 (run (fr.set g (.bool true)) H op) K')→A)→(Gw run r K ((fr.set g (.bool false)).set d undef) H→B)→Gc (fr.get g) A B):Gw run (⟨some d,some (g,true),op⟩ :: r) K fr H:=Gw_gs h rfl
structure Gd (x:Option Value) (A B C D:Prop):Prop where
 ok:∃ t,x=some (.bool t)∧(t=true→A∨C)∧(t=false→B∨D)
theorem Gd_true {A B C D:Prop} (h:A):Gd (some (.bool true)) A B C D:=⟨true,rfl,fun _=>.inl h,fun e=>by cases e⟩
theorem Gd_false {A B C D:Prop} (h:B):Gd (some (.bool false)) A B C D:=⟨false,rfl,fun e=>(by cases e),fun _=>.inl h⟩
theorem Gd_some {t:Bool} {A B C D:Prop} (h1:t=true→C) (h2:t=false→D):Gd (some (.bool t)) A B C D:=⟨t,rfl,fun h=>.inr (h1 h),fun h=>.inr (h2 h)⟩
theorem Gw_dt (h:∀ A B C D:Prop,((∀ K':Value→GHeap→Prop,(∀ v H',Gw run r K (fr.set d v) H'→K' v H')→G1 (run fr H op) K')→A)→(Gw run r K (fr.set d undef) H→B)→
 ((∀ K':Value→GHeap→Prop,(∀ v H',Gw run r K ((fr.set g (.bool true)).set d v) H'→K' v H')→G1 (run (fr.set g (.bool true)) H op) K')→C)→(Gw run r K ((fr.set g (.bool false)).set d undef) H→D)→Gd (fr.get g) A B C D):Gw run (⟨some d,some (g,true),op⟩ :: r) K fr H:=by
 obtain ⟨t,h1,h2,h3⟩:=(h _ _ _ _ id id id id).ok
 refine Gw_gt fun A B hA hB=>⟨t,h1,fun ht=>?_,fun ht=>?_⟩
 ·subst ht
  refine hA ?_
  rcases h2 rfl with h|h
  ·rw [Tr.set_self h1];exact h
  ·exact h
 ·subst ht
  refine hB ?_
  rcases h3 rfl with h|h
  ·rw [Tr.set_self h1];exact h
  ·exact h
theorem Gw_df (h:∀ A B C D:Prop,(Gw run r K (fr.set d undef) H→A)→((∀ K':Value→GHeap→Prop,(∀ v H',Gw run r K (fr.set d v) H'→K' v H')→G1 (run fr H op) K')→B)→
 (Gw run r K ((fr.set g (.bool true)).set d undef) H→C)→((∀ K':Value→GHeap→Prop,(∀ v H',Gw run r K ((fr.set g (.bool false)).set d v) H'→K' v H')→G1 (run (fr.set g (.bool false)) H op) K')→D)→Gd (fr.get g) A B C D):Gw run (⟨some d,some (g,false),op⟩ :: r) K fr H:=by
 obtain ⟨t,h1,h2,h3⟩:=(h _ _ _ _ id id id id).ok
 refine Gw_gf fun A B hA hB=>⟨t,h1,fun ht=>?_,fun ht=>?_⟩
 ·subst ht
  refine hA ?_
  rcases h2 rfl with h|h
  ·rw [Tr.set_self h1];exact h
  ·exact h
 ·subst ht
  refine hB ?_
  rcases h3 rfl with h|h
  ·rw [Tr.set_self h1];exact h
  ·exact h
theorem GW_cd {n:Nat} (h:∀ A B C D:Prop,(GW call a ks R fr H→A)→(GW call b ks R fr H→B)→(GW call a ks R (fr.set n (.bool true)) H→C)→(GW call b ks R (fr.set n (.bool false)) H→D)→Gd (fr.get n) A B C D):GW call (.cond (.t n) a b) ks R fr H:=by
 obtain ⟨t,h1,h2,h3⟩:=(h _ _ _ _ id id id id).ok
 refine GW_cond fun A B hA hB=>⟨t,h1,fun ht=>?_,fun ht=>?_⟩
 ·subst ht
  refine hA ?_
  rcases h2 rfl with h|h
  ·rw [Tr.set_self h1];exact h
  ·exact h
 ·subst ht
  refine hB ?_
  rcases h3 rfl with h|h
  ·rw [Tr.set_self h1];exact h
  ·exact h
theorem Gw_nil (h:K fr H):Gw run [] K fr H:=⟨h⟩
theorem G1_go {v:Value} {H':GHeap} {K:Value→GHeap→Prop} (h:K v H'):G1 (some (v,H')) K:=⟨h⟩
theorem gdoM_gdo (h1:writes op=false) (h2:isCall op=false):gdoM call fr H op=gdo call fr H op:=by rw [gdoM_m h2,gdo_m h1 h2]
end
theorem gev_GW {G:FuncId→Option GEnt} {f:FuncId} {g:GFun} (hG:G f=some (.fn g)) {args:List Value} {H:GHeap} {R:Value→GHeap→Prop} (h:∀ Post:Value→GHeap→Prop,(∀ v H',R v H'→Post v H')→GW (gev G) g.body [] (GR g.rets Post) (frameOf 0 args .nil) H):∃ v H',gev G f args H=some (v,H')∧R v H':=by
 refine gev_of hG (gwp_mono (h R fun _ _ h=>h).ok fun e fr H h=>?_)
 cases e with
 |normal=>exact h.ok
 |ret=>exact h.ok
 |exit id=>exact h
 |goto l=>exact h
end Go.Gh
namespace Go.Gh
set_option linter.unusedVariables false
set_option linter.unusedSimpArgs false
open Go.RowKit
section
variable {call:GCall} {fr:Fr} {H H' H0:GHeap}
theorem gd_lenOf {n:Nat}:gdo call fr H (.lenOf n)=some (.int .i64 n,H):=rfl
theorem gd_min {x:GArg} {r:List GArg}:gdo call fr H (.min x r)=(x.ev fr).bind fun v=>(evs fr r).bind fun l=>(gfold gmin2 l v).bind fun v=>some (v,H):=by
 rw [gdo_m rfl rfl];simp only [gopM];cases x.ev fr with
 |none=>rfl
 |some v=>
  simp only [Option.bind_some]
  cases evs fr r with
  |none=>rfl
  |some u=>simp only [Option.bind_some];cases gfold gmin2 u v<;>rfl
theorem gd_max {x:GArg} {r:List GArg}:gdo call fr H (.max x r)=(x.ev fr).bind fun v=>(evs fr r).bind fun l=>(gfold gmax2 l v).bind fun v=>some (v,H):=by
 rw [gdo_m rfl rfl];simp only [gopM];cases x.ev fr with
 |none=>rfl
 |some v=>
  simp only [Option.bind_some]
  cases evs fr r with
  |none=>rfl
  |some u=>simp only [Option.bind_some];cases gfold gmax2 u v<;>rfl
theorem gd_slice {q:SlK} {x:GArg} {lo hi mx:Option GArg}:gdo call fr H (.slice q x lo hi mx)=(x.ev fr).bind fun v=>(evOpt fr lo).bind fun l=>(evOpt fr hi).bind fun h=>(evOpt fr mx).bind fun m=>(gslice q H v l h m).bind fun r=>some (r,H):=by
 rw [gdo_m rfl rfl];simp only [gopM];cases x.ev fr with
 |none=>rfl
 |some v=>
  simp only [Option.bind_some]
  cases evOpt fr lo with
  |none=>rfl
  |some l=>
   simp only [Option.bind_some]
   cases evOpt fr hi with
   |none=>rfl
   |some h=>
    simp only [Option.bind_some]
    cases evOpt fr mx with
    |none=>rfl
    |some m=>simp only [Option.bind_some];cases gslice q H v l h m<;>rfl
theorem gd_build {z:List Value} {ps:List (Nat × Nat × GArg)}:gdo call fr H (.build z ps)=(evParts fr ps).bind fun l=>(fillL z l).bind fun cs=>some (.agg cs.toArray,H):=by
 rw [gdo_m rfl rfl];simp only [gopM];cases evParts fr ps with
 |none=>rfl
 |some v=>simp only [Option.bind_some];cases fillL z v<;>rfl
theorem gd_buildSl {u n:Nat} {z:List Value} {ps:List (Nat × Nat × GArg)}:gdo call fr H (.buildSl u n z ps)=(evParts fr ps).bind fun l=>(fillL (zeros z n) l).bind fun cs=>some (.slice (some ⟨H.len,0,none⟩) n (n+1),H.add (some (.cells cs u true))):=by
 rw [gdo_m rfl rfl];simp only [gopM];cases evParts fr ps with
 |none=>rfl
 |some v=>simp only [Option.bind_some];cases fillL (zeros z n) v<;>rfl
theorem gd_box {x:GArg}:gdo call fr H (.box x)=(x.ev fr).bind fun v=>if v.cells.all flatV then some (.pointer (some ⟨H.len,0,none⟩),H.add (some (.cells v.cells.toList 0 true))) else none:=by
 rw [gdo_m rfl rfl];simp only [gopM];cases x.ev fr with
 |none=>rfl
 |some v=>
  simp only [Option.bind_some]
  split<;>rfl
theorem gd_ext' {x:GArg} {k:Nat}:gdo call fr H (.ext x k)=(x.ev fr).bind fun v=>match v with
 |.tuple vs=>(vs[k]?).bind fun r=>some (r,H)
 |_=>none:=by
 rw [gdo_m rfl rfl];simp only [gopM];cases x.ev fr with
 |none=>rfl
 |some v=>
  cases v with
  |tuple vs=>simp only [Option.bind_some];generalize vs[k]? =z;cases z<;>rfl
  |_=>rfl
theorem gd_nilc' {x:GArg}:gdo call fr H (.nilc x)=(x.ev fr).bind fun v=>match v with
 |.pointer (some _)=>some (v,H)
 |.func (.func _) _ _=>some (v,H)
 |_=>none:=by
 rw [gdo_m rfl rfl];simp only [gopM];cases x.ev fr with
 |none=>rfl
 |some v=>
  cases v with
  |pointer a=>cases a<;>rfl
  |func a b c=>cases a<;>rfl
  |_=>rfl
theorem gd_rng {x:GArg}:gdo call fr H (.rng x)=(x.ev fr).bind fun v=>match v with
 |.string s=>some (.pointer (some ⟨H.len,0,none⟩),H.add (some (.iter s 0)))
 |_=>none:=by
 rw [gdo_m rfl rfl];simp only [gopM];cases x.ev fr with
 |none=>rfl
 |some v=>cases v<;>rfl
theorem gd_appM {size bytes u:Nat} {s x:GArg}:gdo call fr H (.appM size bytes u s x)=(s.ev fr).bind fun s=>(x.ev fr).bind fun x=>(gappM size bytes u H s x).bind fun r=>some (r.1,H.add r.2):=by
 rw [gdo_m rfl rfl];simp only [gopM];cases s.ev fr with
 |none=>rfl
 |some v=>
  simp only [Option.bind_some]
  cases x.ev fr<;>rfl
theorem gM_move {x:GArg}:gdoM call fr H (.move x)=gdo call fr H (.move x):=gdoM_gdo rfl rfl
theorem gM_pick {c a b:GArg}:gdoM call fr H (.pick c a b)=gdo call fr H (.pick c a b):=gdoM_gdo rfl rfl
theorem gM_alloc {u:Nat} {z:List Value}:gdoM call fr H (.alloc u z)=gdo call fr H (.alloc u z):=gdoM_gdo rfl rfl
theorem gM_load {k:Option Nat} {a:GArg}:gdoM call fr H (.load k a)=gdo call fr H (.load k a):=gdoM_gdo rfl rfl
theorem gM_bin {op:BinOp} {e:Option EqK} {x y:GArg}:gdoM call fr H (.bin op e x y)=gdo call fr H (.bin op e x y):=gdoM_gdo rfl rfl
theorem gM_un {op:UnOp} {x:GArg}:gdoM call fr H (.un op x)=gdo call fr H (.un op x):=gdoM_gdo rfl rfl
theorem gM_fa {n:Nat} {x:GArg}:gdoM call fr H (.fa n x)=gdo call fr H (.fa n x):=gdoM_gdo rfl rfl
theorem gM_ia {l:Option Nat} {n:Nat} {x i:GArg}:gdoM call fr H (.ia l n x i)=gdo call fr H (.ia l n x i):=gdoM_gdo rfl rfl
theorem gM_len {s:Bool} {x:GArg}:gdoM call fr H (.len s x)=gdo call fr H (.len s x):=gdoM_gdo rfl rfl
theorem gM_lenOf {n:Nat}:gdoM call fr H (.lenOf n)=gdo call fr H (.lenOf n):=gdoM_gdo rfl rfl
theorem gM_ix {q:Option (Nat × Nat × Option Nat)} {x i:GArg}:gdoM call fr H (.ix q x i)=gdo call fr H (.ix q x i):=gdoM_gdo rfl rfl
theorem gM_fld {o:Nat} {k:Option Nat} {x:GArg}:gdoM call fr H (.fld o k x)=gdo call fr H (.fld o k x):=gdoM_gdo rfl rfl
theorem gM_cap {x:GArg}:gdoM call fr H (.cap x)=gdo call fr H (.cap x):=gdoM_gdo rfl rfl
theorem gM_ext {x:GArg} {k:Nat}:gdoM call fr H (.ext x k)=gdo call fr H (.ext x k):=gdoM_gdo rfl rfl
theorem gM_conv {q:CvK} {x:GArg}:gdoM call fr H (.conv q x)=gdo call fr H (.conv q x):=gdoM_gdo rfl rfl
theorem gM_mk {z:List Value} {b u:Nat} {l c:GArg}:gdoM call fr H (.mk z b u l c)=gdo call fr H (.mk z b u l c):=gdoM_gdo rfl rfl
theorem gM_fn {f:FuncId} {a b:List GArg}:gdoM call fr H (.fn f a b)=gdo call fr H (.fn f a b):=gdoM_gdo rfl rfl
theorem gM_min {x:GArg} {r:List GArg}:gdoM call fr H (.min x r)=gdo call fr H (.min x r):=gdoM_gdo rfl rfl
theorem gM_max {x:GArg} {r:List GArg}:gdoM call fr H (.max x r)=gdo call fr H (.max x r):=gdoM_gdo rfl rfl
theorem gM_slice {q:SlK} {x:GArg} {lo hi mx:Option GArg}:gdoM call fr H (.slice q x lo hi mx)=gdo call fr H (.slice q x lo hi mx):=gdoM_gdo rfl rfl
theorem gM_build {z:List Value} {ps:List (Nat × Nat × GArg)}:gdoM call fr H (.build z ps)=gdo call fr H (.build z ps):=gdoM_gdo rfl rfl
theorem gM_buildSl {u n:Nat} {z:List Value} {ps:List (Nat × Nat × GArg)}:gdoM call fr H (.buildSl u n z ps)=gdo call fr H (.buildSl u n z ps):=gdoM_gdo rfl rfl
theorem gM_box {x:GArg}:gdoM call fr H (.box x)=gdo call fr H (.box x):=gdoM_gdo rfl rfl
theorem gM_nilc {x:GArg}:gdoM call fr H (.nilc x)=gdo call fr H (.nilc x):=gdoM_gdo rfl rfl
theorem gM_rng {x:GArg}:gdoM call fr H (.rng x)=gdo call fr H (.rng x):=gdoM_gdo rfl rfl
theorem gM_appM {size bytes u:Nat} {s x:GArg}:gdoM call fr H (.appM size bytes u s x)=gdo call fr H (.appM size bytes u s x):=gdoM_gdo rfl rfl
theorem G1_call {f:GArg} {xs:List GArg} {r:FuncId × List Value} {Q K:Value→GHeap→Prop} (ht:gtarget fr f xs=some r) (h:∃ v H',call r.1 r.2 H=some (v,H')∧Q v H') (k:∀ v H',Q v H'→K v H'):G1 (gdo call fr H (.call f xs)) K:=by
 obtain ⟨v,H',h1,hq⟩:=h
 rw [gd_call,ht]
 simp only [Option.bind_some]
 rw [h1]
 exact ⟨k _ _ hq⟩
def GHeap.up (H:GHeap):GHeap:=⟨H.t,H.len,H.len⟩
def GHeap.down (H':GHeap) (l:Nat):GHeap:=⟨H'.t,H'.len,l⟩
theorem G1_callM {f:GArg} {xs:List GArg} {r:FuncId × List Value} {Q K:Value→GHeap→Prop} (ht:gtarget fr f xs=some r) (h:∃ v H',call r.1 r.2 H.up=some (v,H')∧Q v H') (k:∀ v H',Q v H'→K v (H'.down H.lim)):G1 (gdoM call fr H (.call f xs)) K:=by
 obtain ⟨v,H',h1,hq⟩:=h
 have:gdoM call fr H (.call f xs)=some (v,H'.down H.lim):=by
  simp only [gdoM,ht,Option.bind_some]
  rw [show call r.1 r.2 ⟨H.t,H.len,H.len⟩=some (v,H') from h1];rfl
 rw [this]
 exact ⟨k _ _ hq⟩
def GHeap.rd (H:GHeap) (i o:Nat):Option Value:=(H.cs i).bind fun cs=>cs[o]?
def GHeap.rdn (H:GHeap) (i o n:Nat):Option Value:=(H.cs i).bind fun cs=>if o+n≤cs.length then some (.agg ((cs.drop o).take n).toArray) else none
theorem gld_1 {i o:Nat}:gld none H (.pointer (some ⟨i,o,none⟩))=H.rd i o:=by
 simp only [gld,GHeap.rd];cases H.cs i<;>rfl
theorem gld_n {i o n:Nat}:gld (some n) H (.pointer (some ⟨i,o,none⟩))=H.rdn i o n:=by
 simp only [gld,GHeap.rdn];cases H.cs i<;>rfl
theorem len_put {i:Nat} {o:GObj}:(H.put i o).len=H.len:=Eq.trans (b:=H.len) rfl rfl
theorem len_add {o:GObj}:(H.add (some o)).len=H.len+1:=Eq.trans (b:=H.len+1) rfl rfl
theorem lim_put {i:Nat} {o:GObj}:(H.put i o).lim=H.lim:=Eq.trans (b:=H.lim) rfl rfl
theorem lim_add {o:GObj}:(H.add (some o)).lim=H.lim:=Eq.trans (b:=H.lim) rfl rfl
theorem cs_put_same {i:Nat} {cs:List Value} {u:Nat} {b:Bool}:(H.put i (.cells cs u b)).cs i=some cs:=by rw [cs_put,if_pos rfl];rfl
theorem cs_put_ne {i j:Nat} {o:GObj} (h:i≠j):(H.put i o).cs j=H.cs j:=by rw [cs_put,if_neg h]
theorem cs_add_eq {j:Nat} {cs:List Value} {u:Nat} {b:Bool} (h:H.len=j):(H.add (some (.cells cs u b))).cs j=some cs:=by rw [cs_add,if_pos h];rfl
theorem cs_add_ne {j:Nat} {o:GObj} (h:H.len≠j):(H.add (some o)).cs j=H.cs j:=by rw [cs_add,if_neg h]
theorem rd_put_same {i o:Nat} {cs:List Value} {u:Nat} {b:Bool}:(H.put i (.cells cs u b)).rd i o=cs[o]?:=by simp [GHeap.rd,cs_put_same]
theorem rd_put_ne {i j o:Nat} {x:GObj} (h:i≠j):(H.put i x).rd j o=H.rd j o:=by simp [GHeap.rd,cs_put_ne h]
theorem rd_add_eq {j o:Nat} {cs:List Value} {u:Nat} {b:Bool} (h:H.len=j):(H.add (some (.cells cs u b))).rd j o=cs[o]?:=by simp [GHeap.rd,cs_add_eq h]
theorem rd_add_ne {j o:Nat} {x:GObj} (h:H.len≠j):(H.add (some x)).rd j o=H.rd j o:=by simp [GHeap.rd,cs_add_ne h]
theorem rdn_put_ne {i j o n:Nat} {x:GObj} (h:i≠j):(H.put i x).rdn j o n=H.rdn j o n:=by simp [GHeap.rdn,cs_put_ne h]
theorem rdn_add_ne {j o n:Nat} {x:GObj} (h:H.len≠j):(H.add (some x)).rdn j o n=H.rdn j o n:=by simp [GHeap.rdn,cs_add_ne h]
theorem rdn_put_all {i n:Nat} {cs:List Value} {u:Nat} {b:Bool} (h:cs.length=n):(H.put i (.cells cs u b)).rdn i 0 n=some (.agg cs.toArray):=by simp [GHeap.rdn,cs_put_same,← h]
theorem rdn_add_all {j n:Nat} {cs:List Value} {u:Nat} {b:Bool} (h:H.len=j) (h2:cs.length=n):(H.add (some (.cells cs u b))).rdn j 0 n=some (.agg cs.toArray):=by simp [GHeap.rdn,cs_add_eq h,← h2]
theorem Same.rd (h:Same H H') {i o:Nat} (hi:i < H.len):H'.rd i o=H.rd i o:=by simp only [GHeap.rd,h.cs hi]
theorem Same.rdn (h:Same H H') {i o n:Nat} (hi:i < H.len):H'.rdn i o n=H.rdn i o n:=by simp only [GHeap.rdn,h.cs hi]
theorem flatV_int {k:IntKind} {n:Int}:flatV (.int k n)=true:=by simp [flatV]
theorem flatV_bool {b:Bool}:flatV (.bool b)=true:=by simp [flatV]
theorem flatV_str {s:ByteArray}:flatV (.string s)=true:=by simp [flatV]
theorem flatV_ptr {a:Option Addr}:flatV (.pointer a)=true:=by simp [flatV]
theorem flatV_sl {a:Option Addr} {n c:Nat}:flatV (.slice a n c)=true:=by simp [flatV]
def gset (cs:List Value) (o:Nat) (v:Value):Option (List Value):=if o < cs.length∧flatV v=true then some (cs.set o v) else none
theorem gset_ok {cs:List Value} {o:Nat} {v:Value} (h1:o < cs.length) (h2:flatV v=true):gset cs o v=some (cs.set o v):=if_pos ⟨h1,h2⟩
def gsetn (cs:List Value) (o n:Nat):Value→Option (List Value)
 |.agg vs=>if vs.size=n∧o+n≤cs.length∧vs.all flatV=true then some (cs.take o ++ vs.toList ++ cs.drop (o+n)) else none
 |_=>none
theorem gsetn_all {cs:List Value} {n:Nat} {vs:Array Value} (h1:cs.length=n) (h2:vs.size=n) (h3:vs.toList.all flatV=true):gsetn cs 0 n (.agg vs)=some vs.toList:=by
 rw [Array.all_toList] at h3
 simp only [gsetn]
 rw [if_pos ⟨h2,by omega,h3⟩]
 simp [← h1]
theorem gst_1 {i o:Nat} {v:Value}:gst none H (.pointer (some ⟨i,o,none⟩)) v=(H.mine i).bind fun c=>(gset c.1 o v).bind fun cs=>some (H.put i (.cells cs c.2 true)):=by
 simp only [gst]
 cases H.mine i with
 |none=>rfl
 |some c=>simp only [Option.bind_some,gset];split<;>rfl
theorem gst_n {i o n:Nat} {v:Value}:gst (some n) H (.pointer (some ⟨i,o,none⟩)) v=(H.mine i).bind fun c=>(gsetn c.1 o n v).bind fun cs=>some (H.put i (.cells cs c.2 true)):=by
 simp only [gst]
 cases H.mine i with
 |none=>rfl
 |some c=>
  simp only [Option.bind_some]
  cases v<;>simp only [gsetn,Option.bind_none]
  split<;>rfl
theorem mine_put_same {i:Nat} {cs:List Value} {u:Nat} (h:H.lim≤i):(H.put i (.cells cs u true)).mine i=some (cs,u):=by
 simp only [GHeap.mine,lim_put,h,if_true,obj_put]
theorem mine_put_ne {i j:Nat} {o:GObj} (h:i≠j):(H.put i o).mine j=H.mine j:=by
 simp only [GHeap.mine,lim_put,obj_put,if_neg h]
theorem mine_add_eq {j:Nat} {cs:List Value} {u:Nat} (h:H.len=j) (h2:H.lim≤j):(H.add (some (.cells cs u true))).mine j=some (cs,u):=by
 simp only [GHeap.mine,lim_add,h2,if_true,obj_add,if_pos h]
theorem mine_add_ne {j:Nat} {o:GObj} (h:H.len≠j):(H.add (some o)).mine j=H.mine j:=by
 simp only [GHeap.mine,lim_add,obj_add,if_neg h]
theorem Same.mine (h:Same H H') {i:Nat} (hi:i < H.len):H'.mine i=H.mine i:=by simp only [GHeap.mine,h.lim,h.obj i hi]
theorem mine_obj {i:Nat} {c:List Value × Nat} (h:H.mine i=some c):H.lim≤i∧H.obj i=some (.cells c.1 c.2 true):=by
 simp only [GHeap.mine] at h
 split at h
 ·rename_i hl
  split at h
  ·rename_i e;cases h;exact ⟨hl,e⟩
  ·cases h
 ·cases h
theorem mine_rd {i o:Nat} {c:List Value × Nat} (h:H.mine i=some c):H.rd i o=c.1[o]?:=by
 simp only [GHeap.rd,GHeap.cs,(mine_obj h).2,Option.bind_some]
theorem mine_cs {i:Nat} {c:List Value × Nat} (h:H.mine i=some c):H.cs i=some c.1:=by
 simp only [GHeap.cs,(mine_obj h).2]
theorem mine_lt {i:Nat} {c:List Value × Nat} (hw:H.wf) (h:H.mine i=some c):i < H.len:=(hw.2 i).1 (by rw [(mine_obj h).2];rfl)
theorem wf_put (hw:H.wf) {i:Nat} (hi:i < H.len) (o:GObj):(H.put i o).wf:=by
 refine ⟨hw.1,fun j=>?_⟩
 rw [obj_put]
 by_cases e:i=j
 ·subst e;simp;exact hi
 ·rw [if_neg e];exact hw.2 j
theorem put_self {i:Nat} {o:GObj} (h:H.obj i=some o):H.put i o=H:=by
 unfold GHeap.put
 rw [Tr.set_self (show H.t.get i=some o from h)]
def blk:Value→Nat
 |.slice (some a) _ _|.pointer (some a)=>a.block
 |_=>0
def ofs:Value→Nat
 |.slice (some a) _ _|.pointer (some a)=>a.off
 |_=>0
theorem blk_sl {i o n c:Nat}:blk (.slice (some ⟨i,o,none⟩) n c)=i:=rfl
theorem ofs_sl {i o n c:Nat}:ofs (.slice (some ⟨i,o,none⟩) n c)=o:=rfl
def IsSl (v:Value) (n:Nat):Prop:=∃ a gc,v=.slice a n gc∧(0 < n→∃ i o,a=some ⟨i,o,none⟩)
theorem IsSl.len {v:Value} {n:Nat} (h:IsSl v n):glen false v=some (.int .i64 n):=by obtain ⟨a,gc,rfl,_⟩:=h;rfl
theorem IsSl.ia {v:Value} {n size:Nat} {k:IntKind} {j:Int} (h:IsSl v n) (h0:0≤j) (h1:j < n):gia none size v (.int k j)=some (.pointer (some ⟨blk v,ofs v+j.toNat * size,none⟩)):=by
 obtain ⟨a,gc,rfl,h3⟩:=h
 obtain ⟨i,o,rfl⟩:=h3 (by omega)
 simp [gia,h0,h1,blk,ofs]
theorem GRd.isSl {size n:Nat} {v:Value} {xs:List Value} (h:GRd H size v n xs):IsSl v n:=by
 obtain ⟨_,a,gc,h2,h3⟩:=h
 exact ⟨a,gc,h2,fun hn=>(h3 hn).imp fun i h=>h.imp fun o h=>h.choose_spec.1⟩
theorem GRd.lt {size n:Nat} {v:Value} {xs:List Value} (h:GRd H size v n xs) (hn:0 < n):blk v < H.len:=by
 obtain ⟨_,a,gc,rfl,h3⟩:=h
 obtain ⟨i,o,cs,rfl,h4,_⟩:=h3 hn
 exact h4
theorem GRd.rd {size n:Nat} {v:Value} {xs:List Value} (h:GRd H size v n xs) {c:Nat} (hc:c < xs.length):H.rd (blk v) (ofs v+c)=xs[c]?:=by
 obtain ⟨hl,a,gc,rfl,h3⟩:=h
 obtain ⟨i,o,cs,rfl,h4,h5,h6⟩:=h3 (by rcases Nat.eq_zero_or_pos n with h|h;· subst h;omega
                                      ·exact h)
 simp only [GHeap.rd,blk,ofs,h5,Option.bind_some]
 have:=List.getElem?_eq_getElem hc
 rw [this]
 exact h6 _ _ this
theorem GRd.rdn {size n:Nat} {v:Value} {xs:List Value} (h:GRd H size v n xs) (hs:0 < size) {c m:Nat} (hm:0 < m) (hc:c+m≤xs.length):H.rdn (blk v) (ofs v+c) m=some (.agg ((xs.drop c).take m).toArray):=by
 obtain ⟨hl,a,gc,rfl,h3⟩:=h
 obtain ⟨i,o,cs,rfl,h4,h5,h6⟩:=h3 (by rcases Nat.eq_zero_or_pos n with h|h;· subst h;omega
                                      ·exact h)
 obtain ⟨e1,e2⟩:=drop_take_eq (k:=c) (n:=m) hc h6
 have hb:blk (.slice (some ⟨i,o,none⟩) n gc)=i:=rfl
 have ho:ofs (.slice (some ⟨i,o,none⟩) n gc)=o:=rfl
 rw [hb,ho,GHeap.rdn,h5,Option.bind_some,if_pos (e2 (by omega)),e1]
structure GArg1 (H:GHeap) (size:Nat) (v:Value) (n:Nat) (xs:List Value):Prop where
 rd:GRd H size v n xs
 sl:∃ a gc,v=.slice a n gc∧(gc=0∨n < gc∧a≠none)∧(n=0→a=none∨∃ i o,a=some ⟨i,o,none⟩)∧∀ i o,a=some ⟨i,o,none⟩→∃ u,H.unit i=some u∧(u=0∨usz u=size)
theorem GArg1.cut {size n:Nat} {v:Value} {xs:List Value} (h:GArg1 H size v n xs) {k:IntKind} {a b:Int} (h0:0≤a) (h1:a≤b) (h2:b≤n):
 ∃ v',gslice (.sl size) H v (some (.int k a)) (some (.int k b)) none=some v'∧GArg1 H size v' (b.toNat - a.toNat) ((xs.drop (a.toNat * size)).take ((b.toNat - a.toNat) * size))∧(v=v'∨blk v'=blk v):=by
 obtain ⟨hl,a0,gc0,rfl,h3⟩:=h.rd
 obtain ⟨a1,gc,e,hgc,hnil,hu⟩:=h.sl
 cases e
 have hxl:((xs.drop (a.toNat * size)).take ((b.toNat - a.toNat) * size)).length=(b.toNat - a.toNat) * size:=by
  rw [List.length_take,List.length_drop,hl,← Nat.sub_mul]
  exact Nat.min_eq_left (Nat.mul_le_mul_right _ (by omega))
 cases a0 with
 |none=>
  have hn:n=0:=by
   rcases Nat.eq_zero_or_pos n with h|h
   ·exact h
   ·obtain ⟨i,o,cs,e,_⟩:=h3 h;cases e
  subst hn
  have hg0:gc0=0:=by
   rcases hgc with h|⟨_,h⟩
   ·exact h
   ·exact absurd rfl h
  subst hg0
  obtain rfl:a=0:=by omega
  obtain rfl:b=0:=by omega
  refine ⟨.slice none 0 0,by simp [gslice,gbounds],⟨⟨by simp,none,0,rfl,fun h=>absurd h (by simp)⟩,none,0,rfl,.inl rfl,fun _=>.inl rfl,fun i o e=>by cases e⟩,.inl rfl⟩
 |some p=>
  obtain ⟨i,o,rfl⟩:∃ i o,p=⟨i,o,none⟩:=by
   rcases Nat.eq_zero_or_pos n with h|h
   ·rcases hnil h with e|⟨i,o,e⟩
    ·cases e
    ·cases e;exact ⟨i,o,rfl⟩
   ·obtain ⟨i,o,cs,e,_⟩:=h3 h;cases e;exact ⟨i,o,rfl⟩
  obtain ⟨u,hu1,hu2⟩:=hu i o rfl
  refine ⟨.slice (some ⟨i,o+a.toNat * size,none⟩) (b.toNat - a.toNat) (if gc0=0 then 0 else gc0 - a.toNat),?_,⟨⟨hxl,_,_,rfl,fun hn=>?_⟩,_,_,rfl,?_,fun _=>.inr ⟨_,_,rfl⟩,fun i' o' e=>by cases e;exact ⟨u,hu1,hu2⟩⟩,.inr rfl⟩
  ·have:gslice (.sl size) H (.slice (some ⟨i,o,none⟩) n gc0) (some (.int k a)) (some (.int k b)) none=(gbounds n (if gc0=0 then n else gc0 - 1) (some (.int k a)) (some (.int k b))).map fun (l,h)=>.slice (some ⟨i,o+l * size,none⟩) (h - l) (if gc0=0 then 0 else gc0 - l):=by
    cases n<;>cases gc0<;>simp [gslice,hu1,hu2]
   rw [this]
   have hb1:0≤b:=by omega
   have hb2:a≤max b 0:=by omega
   have hb3:b≤((if gc0=0 then n else gc0 - 1:Nat):Int):=by split<;>omega
   simp only [gbounds]
   rw [if_pos ⟨hb1,hb3⟩]
   simp only
   rw [if_pos ⟨h0,by omega⟩]
   rfl
  ·obtain ⟨i',o',cs,e,k1,k2,k3⟩:=h3 (by omega)
   cases e
   refine ⟨i,o+a.toNat * size,cs,rfl,k1,k2,fun j u hu=>?_⟩
   by_cases hj:j < (b.toNat - a.toNat) * size
   ·rw [List.getElem?_take_of_lt hj,List.getElem?_drop] at hu
    rw [Nat.add_assoc];exact k3 _ _ hu
   ·rw [List.getElem?_take_eq_none (by omega)] at hu;cases hu
  ·rcases hgc with h|⟨h,_⟩
   ·left;rw [if_pos h]
   ·right;rw [if_neg (by omega)];exact ⟨by omega,by simp⟩
theorem gslice_lo0 {q:SlK} {v:Value} {hi mx:Option Value} {k:IntKind} (hv:∀ x,hi=some x→∃ k n,x=.int k n):gslice q H v none hi mx=gslice q H v (some (.int k 0)) hi mx:=by
 have:∀ n c,gbounds n c none hi=gbounds n c (some (.int k 0)) hi:=by
  intro n c
  unfold gbounds
  split
  ·rfl
  ·simp
 unfold gslice
 split<;>simp only [this]
theorem gslice_hi {size n:Nat} {v:Value} {xs:List Value} (h:GArg1 H size v n xs) {lo:Option Value} {k:IntKind}:gslice (.sl size) H v lo none none=gslice (.sl size) H v lo (some (.int k n)) none:=by
 obtain ⟨a,gc,e,hgc,_⟩:=h.sl
 subst e
 have:∀ c,n≤c→gbounds n c lo none=gbounds n c lo (some (.int k n)):=by
  intro c hc
  have:(0:Int)≤(n:Int)∧(n:Int)≤c:=by omega
  simp only [gbounds,if_pos this,Int.toNat_natCast]
 cases a with
 |none=>
  cases n with
  |zero=>
   have hg0:gc=0:=by
    rcases hgc with h|⟨_,h⟩
    ·exact h
    ·exact absurd rfl h
   subst hg0
   simp only [gslice];rw [this 0 (Nat.le_refl _)]
  |succ n=>rfl
 |some p=>
  obtain ⟨i,o,pr⟩:=p
  cases pr with
  |none=>
   simp only [gslice]
   rw [this _ (by split<;>omega)]
  |some x=>rfl
theorem GArg1.same {size n:Nat} {v:Value} {xs:List Value} (h:GArg1 H size v n xs) (hw:H.wf) (hs:Same H H'):GArg1 H' size v n xs:=by
 refine ⟨h.rd.same hs,?_⟩
 obtain ⟨a,gc,e,k0,k1,k2⟩:=h.sl
 refine ⟨a,gc,e,k0,k1,fun i o ha=>?_⟩
 obtain ⟨u,k3,k4⟩:=k2 i o ha
 exact ⟨u,hs.unit hw k3,k4⟩
def ints (k:IntKind) (l:List Int):List Value:=l.map (.int k)
theorem ints_length {k:IntKind} {l:List Int}:(ints k l).length=l.length:=by simp [ints]
theorem ints_get {k:IntKind} {l:List Int} {j:Nat}:(ints k l)[j]? =(l[j]?).map (.int k):=by simp [ints]
theorem ints_set {k:IntKind} {l:List Int} {j:Nat} {x:Int}:(ints k l).set j (.int k x)=ints k (l.set j x):=by simp [ints,List.map_set]
theorem gget {α:Type} {l:List α} {j:Nat} [Inhabited α] (h:j < l.length):l[j]? =some l[j]!:=by
 rw [List.getElem?_eq_getElem h,List.getElem!_eq_getElem?_getD,List.getElem?_eq_getElem h];rfl
theorem ints_at {k:IntKind} {l:List Int} {j:Nat} (h:j < l.length):(ints k l)[j]? =some (.int k l[j]!):=by rw [ints_get,gget h];rfl
theorem wr_i64 {n:Int} (h:-9223372036854775808≤n∧n≤9223372036854775807):IntKind.i64.wrap n=n:=by rw [IntKind.wrap_i64];omega
theorem wr_i32 {n:Int} (h:-2147483648≤n∧n≤2147483647):IntKind.i32.wrap n=n:=by rw [IntKind.wrap_i32];omega
theorem wr_u8 {n:Int} (h:0≤n∧n≤255):IntKind.u8.wrap n=n:=by rw [IntKind.wrap_u8];omega
theorem wr_u16 {n:Int} (h:0≤n∧n≤65535):IntKind.u16.wrap n=n:=by rw [IntKind.wrap_u16];omega
theorem wr_u32 {n:Int} (h:0≤n∧n≤4294967295):IntKind.u32.wrap n=n:=by rw [IntKind.wrap_u32];omega
section
variable {k:IntKind} {e:Option EqK} {a b:Int}
theorem gb_eql':gbin .eql e (.int k a) (.int k b)=some (.bool (decide (a=b))):=by simp only [gb_eql];congr 2
theorem gb_neq':gbin .neq e (.int k a) (.int k b)=some (.bool (decide (¬ a=b))):=by
 simp only [gb_neq];congr 2
 by_cases h:a=b<;>simp [h]
theorem gb_mul:gbin .mul e (.int k a) (.int k b)=some (.int k (k.wrap (a * b))):=by simp [gbin,gint]
theorem gb_quo (h:b≠0):gbin .quo e (.int k a) (.int k b)=some (.int k (k.wrap (a.tdiv b))):=by simp [gbin,gint,h]
theorem gb_rem (h:b≠0):gbin .rem e (.int k a) (.int k b)=some (.int k (a.tmod b)):=by simp [gbin,gint,h]
theorem gu_not {t:Bool}:gun .not (.bool t)=some (.bool !t):=rfl
theorem gu_neg:gun .neg (.int k a)=some (.int k (k.wrap (0 - a))):=rfl
theorem gfold_min1:gfold gmin2 [.int k b] (.int k a)=some (.int k (min a b)):=by
 simp only [gfold,gmin2,Option.bind_some]
 congr 2
 rw [Int.min_def]
 split<;>split<;>omega
theorem gfold_max1:gfold gmax2 [.int k b] (.int k a)=some (.int k (max a b)):=by
 simp only [gfold,gmax2,Option.bind_some]
 congr 2
 rw [Int.max_def]
 split<;>split<;>omega
end
end
section
variable {call:GCall} {fr:Fr} {H:GHeap} {ks:List Kt} {R:Fr→GHeap→Prop} {hid:List Nat} {r:List (Bool × GOper)} {K:Fr→GHeap→Prop} {op:GOp} {d:Nat}
structure Gp (call:GCall) (hid:List Nat) (l:List (Bool × GOper)) (K:Fr→GHeap→Prop) (fr:Fr) (H:GHeap):Prop where
 ok:∃ f2 H2,gpost call hid l fr H=some (f2,H2)∧K f2 H2
theorem Gp_nil (h:K fr H):Gp call hid [] K fr H:=⟨fr,H,rfl,h⟩
theorem Gp_s (h:∀ K':Value→GHeap→Prop,(∀ v H',Gp call hid r K (fr.set d v) H'→K' v H')→G1 (gdo call fr H op) K'):Gp call hid ((false,⟨some d,none,op⟩) :: r) K fr H:=by
 have h:=(h _ fun _ _ h=>h).ok
 cases hr:gdo call fr H op with
 |none=>rw [hr] at h;exact h.elim
 |some x=>
  rw [hr] at h
  obtain ⟨f2,H2,h1,h2⟩:=h.ok
  refine ⟨f2,H2,?_,h2⟩
  simp only [gpost,gwants_none]
  rw [if_neg (by simp),gdoE_yes hr (fun e=>by cases e)]
  exact h1
structure OwnG (H:GHeap) (v:Value) (size u n:Nat) (xs:List Value):Prop where
 len:xs.length=n * size
 at_:(v=.slice none 0 0∧n=0)∨∃ i gc,v=.slice (some ⟨i,0,none⟩) n gc∧(gc=0∨gc=n+1)∧H.mine i=some (xs,u)
theorem gapp_own {v x:Value} {size bytes u n m:Nat} {xs news:List Value} (hw:H.wf) (h:OwnG H v size u n xs) (hu:u≠0) (hs:size≠0) (hc:gcount x=some m) (hg:gcells size m H x=some news) (hl:news.length=m * size) (hm:0 < m) (hb:(n+m) * bytes≤140737488355328) (hb2:n+m≤9223372036854775807):
 ∃ v' H',gapp size bytes u H v x=some (v',H')∧OwnG H' v' size u (n+m) (xs ++ news)∧H'.wf∧H'.lim=H.lim∧H'.len=H.len+1∧blk v'=H.len∧(∀ j,j < H.len→j≠blk v∨v=.slice none 0 0→H'.obj j=H.obj j):=by
 have hlen:(xs ++ news).length=(n+m) * size:=by rw [List.length_append,h.len,hl,Nat.add_mul]
 have hadd:∀ (H1:GHeap),H1.wf→H1.lim=H.lim→H1.len=H.len→∀ cs,(H1.add (some (.cells cs u true))).wf∧(H1.add (some (.cells cs u true))).mine H.len=some (cs,u):=by
  intro H1 hw1 hl1 hl2 cs
  refine ⟨(Fwd.add hw1 _).wf hw1,mine_add_eq hl2 (by rw [hl1];exact hw.1)⟩
 have hm0:¬ m=0:=by omega
 have hcond:(n+m) * bytes≤140737488355328∧n+m≤9223372036854775807∧size≠0∧news.length=m * size:=⟨hb,hb2,hs,hl⟩
 rcases h.at_ with ⟨rfl,rfl⟩|⟨i,gc,rfl,hgc,hmi⟩
 ·have hx0:xs=[]:=List.eq_nil_of_length_eq_zero (by have:=h.len;omega)
  subst hx0
  refine ⟨.slice (some ⟨H.len,0,none⟩) m 0,H.add (some (.cells news u true)),?_,⟨hlen,.inr ⟨H.len,0,by rw [Nat.zero_add],.inl rfl,by rw [List.nil_append];exact (hadd H hw rfl rfl news).2⟩⟩,(hadd H hw rfl rfl news).1,rfl,rfl,rfl,fun j hj _=>?_⟩
  ·simp only [gapp,hc,hg,Option.bind_some,if_neg hm0,if_pos hcond,if_true]
  ·rw [obj_add,if_neg (by omega)]
 ·obtain ⟨hml,hob⟩:=mine_obj hmi
  have hil:=mine_lt hw hmi
  rcases hgc with rfl|rfl
  ·have hle:0+n * size≤xs.length:=by have:=h.len;omega
   have e1:(xs.drop 0).take (n * size)=xs:=by rw [List.drop_zero,List.take_of_length_le (by have:=h.len;omega)]
   refine ⟨.slice (some ⟨H.len,0,none⟩) (n+m) 0,(H.put i (.dead u)).add (some (.cells (xs ++ news) u true)),?_,⟨hlen,.inr ⟨H.len,0,rfl,.inl rfl,(hadd (H.put i (.dead u)) (wf_put hw hil _) rfl rfl _).2⟩⟩,(hadd (H.put i (.dead u)) (wf_put hw hil _) rfl rfl _).1,rfl,rfl,rfl,fun j hj hne=>?_⟩
   ·simp only [gapp,hc,hg,Option.bind_some,if_neg hm0,if_pos hcond,if_true,hmi]
    rw [if_pos ⟨trivial,hu,hle⟩,e1]
   ·rw [obj_add,if_neg (by show H.len≠j;omega),obj_put,if_neg]
    rcases hne with h|h
    ·exact Ne.symm h
    ·cases h
  ·have hgc0:¬ n+1=0:=by omega
   have hge:n+1≤n+m:=by omega
   have hold:gcells size n H (.slice (some ⟨i,0,none⟩) n (n+1))=some xs:=by
    simp only [gcells]
    by_cases h0:n * size=0
    ·rw [if_pos h0]
     have:xs=[]:=List.eq_nil_of_length_eq_zero (by rw [h.len];exact h0)
     rw [this]
    ·rw [if_neg h0,mine_cs hmi]
     simp only
     rw [if_pos (by have:=h.len;omega),List.drop_zero,List.take_of_length_le (by have:=h.len;omega)]
   refine ⟨.slice (some ⟨H.len,0,none⟩) (n+m) 0,H.add (some (.cells (xs ++ news) u true)),?_,⟨hlen,.inr ⟨H.len,0,rfl,.inl rfl,(hadd H hw rfl rfl _).2⟩⟩,(hadd H hw rfl rfl _).1,rfl,rfl,rfl,fun j hj hne=>?_⟩
   ·simp only [gapp,hc,hg,Option.bind_some,if_neg hm0,if_pos hcond,if_neg hgc0,if_pos hge,hold,h.len,if_true]
   ·rw [obj_add,if_neg (by omega)]
theorem OwnG.rd {v:Value} {size u n:Nat} {xs:List Value} (hw:H.wf) (h:OwnG H v size u n xs):GRd H size v n xs:=by
 refine ⟨h.len,?_⟩
 rcases h.at_ with ⟨rfl,rfl⟩|⟨i,gc,rfl,_,hmi⟩
 ·exact ⟨none,0,rfl,fun h=>absurd h (by omega)⟩
 ·exact ⟨_,gc,rfl,fun _=>⟨i,0,xs,rfl,mine_lt hw hmi,mine_cs hmi,fun j u hu=>by rw [Nat.zero_add];exact hu⟩⟩
theorem gcells_own {i n gc u:Nat} {xs:List Value} {size:Nat} (hm:H.mine i=some (xs,u)) (hl:xs.length=n * size):gcells size n H (.slice (some ⟨i,0,none⟩) n gc)=some xs:=by
 simp only [gcells]
 by_cases h0:n * size=0
 ·have:xs=[]:=List.eq_nil_of_length_eq_zero (by rw [hl];exact h0)
  rw [if_pos h0,this]
 ·rw [if_neg h0,mine_cs hm]
  simp only
  rw [if_pos (by omega),List.drop_zero,List.take_of_length_le (by omega)]
theorem Same.of_obj {H0 H':GHeap} (h:Same H0 H) (hw:H'.wf) (hlim:H'.lim=H.lim) (hlen:H.len≤H'.len) (ho:∀ j,j < H0.len→H'.obj j=H.obj j):Same H0 H':=
 ⟨hlim.trans h.lim,Nat.le_trans h.len hlen,fun j hj=>(ho j hj).trans (h.obj j hj),hw⟩
end
theorem zeros_ints {k:IntKind} {v:Int}:∀ {n:Nat},zeros [.int k v] n=ints k (List.replicate n v)
 |0=>rfl
 |n+1=>by rw [zeros,zeros_ints,List.replicate_succ];rfl
theorem zeros_sl:∀ {n:Nat},zeros [.slice none 0 0] n=List.replicate n (.slice none 0 0)
 |0=>rfl
 |n+1=>by rw [zeros,zeros_sl,List.replicate_succ];rfl
theorem gmake_sq {z:List Value} {b u:Nat} {H:GHeap} {k k':IntKind} {l:Int} (h0:0≤l) (h2:l * b≤281474976710656) (h3:l≤9223372036854775807):gmake z b u H (.int k l) (.int k' l)=some (.slice (some ⟨H.len,0,none⟩) l.toNat (l.toNat+1),some (.cells (zeros z l.toNat) u true)):=by
 simp only [gmake]
 rw [if_pos ⟨h0,Int.le_refl _,h2,h3⟩]
theorem GArg1.gslice_same {H H':GHeap} {size n:Nat} {v:Value} {xs:List Value} (h:GArg1 H size v n xs) (hw:H.wf) (hs:Same H H') (lo hi mx:Option Value):gslice (.sl size) H' v lo hi mx=gslice (.sl size) H v lo hi mx:=by
 obtain ⟨a,gc,rfl,k0,k1,k2⟩:=h.sl
 cases a with
 |none=>cases n<;>cases gc<;>rfl
 |some p=>
  obtain ⟨i,o,pr⟩:=p
  cases pr with
  |some x=>rfl
  |none=>
   obtain ⟨u,h1,_⟩:=k2 i o rfl
   have h2:=hs.unit hw h1
   simp only [gslice,h1,h2]
theorem cells_flat {v:Value} (h:flatV v=true):v.cells=#[v]:=by cases v<;>first|rfl|simp [flatV] at h
theorem fillL_1 {cells:List Value} {v:Value} (hc:cells.length=1) (hv:flatV v=true):fillL cells [(0,1,v)]=some [v]:=by
 match cells,hc with
 |[c],_=>simp [fillL,cells_flat hv,hv]
theorem fillL_0 {cells:List Value}:fillL cells []=some cells:=rfl
theorem ints_nil {k:IntKind}:ints k []=[]:=rfl
theorem gcells_1 {H:GHeap} {i gc u:Nat} {v:Value} (h:H.mine i=some ([v],u)):gcells 1 1 H (.slice (some ⟨i,0,none⟩) 1 gc)=some [v]:=gcells_own h rfl
theorem G1_eq {x:Option (Value × GHeap)} {v:Value} {H':GHeap} {K:Value→GHeap→Prop} (e:x=some (v,H')) (h:K v H'):G1 x K:=by rw [e];exact ⟨h⟩
theorem OwnG.app1 {H:GHeap} {vo x:Value} {u k b:Nat} {xs:List Value} (h:OwnG H vo 1 u k xs) (hw:H.wf) (hu:u≠0) (hb:(k+1) * b≤140737488355328) (hk:k < 140737488355328):
 ∃ v' H',gapp 1 b u (H.add (some (.cells [x] u true))) vo (.slice (some ⟨H.len,0,none⟩) 1 2)=some (v',H')∧OwnG H' v' 1 u (k+1) (xs ++ [x])∧(∀ H0,Same H0 H→H0.len≤blk vo∨vo=.slice none 0 0→Same H0 H'∧H0.len≤blk v')∧∀ j,j < H.len→j≠blk vo∨vo=.slice none 0 0→H'.obj j=H.obj j:=by
 have hw2:=(Fwd.add hw (some (.cells [x] u true))).wf hw
 have hO2:OwnG (H.add (some (.cells [x] u true))) vo 1 u k xs:=⟨h.len,h.at_.imp id fun ⟨j,gc,e,hg,hm⟩=>⟨j,gc,e,hg,by rw [mine_add_ne (by have:=mine_lt hw hm;omega)];exact hm⟩⟩
 obtain ⟨v',H',k1,k2,k3,k4,k5,k6,k7⟩:=gapp_own (bytes:=b) (m:=1) (x:=.slice (some ⟨H.len,0,none⟩) 1 2) (news:=[x]) hw2 hO2 hu (by omega) rfl (gcells_1 (mine_add_eq rfl hw.1)) rfl (by omega) (by omega) (by omega)
 refine ⟨v',H',k1,k2,fun H0 hS hv=>⟨(hS.add _).of_obj k3 k4 (by omega) fun j hj=>k7 j (Nat.lt_of_lt_of_le hj (Nat.le_succ_of_le hS.len)) ?_,?_⟩,fun j hj hne=>by rw [k7 j (Nat.lt_succ_of_lt hj) hne,obj_add,if_neg (by omega)]⟩
 ·rcases hv with hv|hv
  ·exact .inl (by omega)
  ·exact .inr hv
 ·rw [k6,len_add];exact Nat.le_succ_of_le hS.len
theorem OwnG.arg {H:GHeap} {v:Value} {size u n:Nat} {xs:List Value} (hw:H.wf) (h:OwnG H v size u n xs) (hu:u=0∨usz u=size):GArg1 H size v n xs:=by
 refine ⟨h.rd hw,?_⟩
 rcases h.at_ with ⟨rfl,rfl⟩|⟨i,gc,rfl,hg,hm⟩
 ·exact ⟨none,0,rfl,.inl rfl,fun _=>.inl rfl,fun i o e=>by cases e⟩
 ·refine ⟨_,gc,rfl,?_,fun _=>.inr ⟨_,_,rfl⟩,fun i' o' e=>?_⟩
  ·rcases hg with h|h
   ·exact .inl h
   ·exact .inr ⟨by omega,by simp⟩
  ·cases e
   exact ⟨u,by unfold GHeap.unit;rw [(mine_obj hm).2];rfl,hu⟩
theorem gcells_arg {H:GHeap} {size n:Nat} {v:Value} {xs:List Value} (h:GArg1 H size v n xs):gcells size n H v=some xs:=by
 obtain ⟨a0,gc0,e0,_,hnil,_⟩:=h.sl
 obtain ⟨hl,a,gc,rfl,h3⟩:=h.rd
 cases e0
 cases a0 with
 |none=>
  have hn:n=0:=by
   rcases Nat.eq_zero_or_pos n with h|h
   ·exact h
   ·obtain ⟨i,o,cs,e,_⟩:=h3 h;cases e
  subst hn
  have:xs=[]:=List.eq_nil_of_length_eq_zero (by omega)
  subst this;rfl
 |some p=>
  by_cases h0:n * size=0
  ·have hx:xs=[]:=List.eq_nil_of_length_eq_zero (by omega)
   subst hx
   obtain ⟨i,o,rfl⟩:∃ i o,p=⟨i,o,none⟩:=by
    rcases Nat.eq_zero_or_pos n with h|h
    ·rcases hnil h with e|⟨i,o,e⟩
     ·cases e
     ·cases e;exact ⟨i,o,rfl⟩
    ·obtain ⟨i,o,cs,e,_⟩:=h3 h;cases e;exact ⟨i,o,rfl⟩
   simp [gcells,h0]
  ·obtain ⟨i,o,cs,e,k1,k2,k3⟩:=h3 (Nat.pos_of_ne_zero fun h=>h0 (by rw [h,Nat.zero_mul]))
   cases e
   obtain ⟨e1,e2⟩:=drop_take_eq (o:=o) (k:=0) (n:=n * size) (by omega) k3
   simp only [gcells,if_neg h0,k2]
   have:=e2 h0
   rw [if_pos (by omega)]
   rw [Nat.add_zero,List.drop_zero] at e1
   rw [e1,List.take_of_length_le (by omega)]
end Go.Gh
namespace Go.Gh
set_option linter.unusedVariables false
set_option linter.unusedSimpArgs false
open Go.RowKit
namespace Tr
theorem setF_setF {α:Type}:∀ (k:Nat) (t:Tr α) (n:Nat) (x y:α),setF k (setF k t n x) n y=setF k t n y:=by
 intro k
 induction k with
 |zero=>intro t n x y;cases t<;>rfl
 |succ k ih=>
  intro t n x y
  cases t<;>simp only [setF]<;>cases h0:n == 0<;>cases h1:n % 2 == 1<;>simp only [cond_true,cond_false,setF,h0,h1,ih]
theorem set_set {α:Type} (t:Tr α) (n:Nat) (x y:α):(t.set n x).set n y=t.set n y:=setF_setF n t n x y
end Tr
theorem put_put {H:GHeap} {i:Nat} {o o':GObj}:(H.put i o).put i o'=H.put i o':=by
 simp only [GHeap.put,Tr.set_set]
section
variable {run:Fr→GHeap→GOp→Option (Value × GHeap)} {r:List GOper} {K:Fr→GHeap→Prop} {op:GOp} {d g:Nat} {t:Bool} {fr:Fr} {H:GHeap}
structure Gu (x:Option Value) (A:Prop):Prop where
 ok:x=some undef∧A
theorem Gw_u (h:∀ A:Prop,(Gw run r K (fr.set d undef) H→A)→Gu (fr.get g) A):Gw run (⟨some d,some (g,t),op⟩ :: r) K fr H:=by
 obtain ⟨h1,h2⟩:=(h _ id).ok
 have hw:gwants fr (some (g,t))=some false:=by simp only [gwants,h1];rfl
 refine ⟨?_⟩
 simp only [gws]
 rw [hw]
 exact ⟨fun e=>(by cases e),fun _=>h2.ok⟩
end
theorem agg_all {l:List Value}:(Value.agg l.toArray).cells.all flatV=l.all flatV:=by simp [Value.cells]
theorem agg_list {l:List Value}:(Value.agg l.toArray).cells.toList=l:=by simp [Value.cells]
def setL (cells:List Value):List (Nat × Nat × Value)→List Value
 |[]=>cells
 |(o,_,v) :: r=>setL (cells.set o v) r
theorem fillL_set:∀ (ps:List (Nat × Nat × Value)) (cells:List Value),(ps.all fun p=>p.2.1 == 1 && decide (p.1 < cells.length) && flatV p.2.2)=true→fillL cells ps=some (setL cells ps)
 |[],_,_=>rfl
 |(o,n,v) :: r,cells,h=>by
  simp only [List.all_cons,Bool.and_eq_true,beq_iff_eq,decide_eq_true_eq] at h
  obtain ⟨⟨⟨rfl,h1⟩,h2⟩,h3⟩:=h
  have hc:v.cells.toList=[v]:=by rw [cells_flat h2]
  have hlen:(cells.set o v).length=cells.length:=List.length_set
  have ih:=fillL_set r (cells.set o v) (by rw [hlen];exact h3)
  simp only [fillL,hc,List.all_cons,h2,List.length_singleton]
  rw [if_neg (by simp;omega),take_set_drop cells o v h1,ih];rfl
def u8s (l:List UInt8):List Value:=l.map fun b=>.int .u8 b.toNat
theorem u8s_length {l:List UInt8}:(u8s l).length=l.length:=by simp [u8s]
theorem u8s_get {l:List UInt8} {j:Nat}:(u8s l)[j]? =(l[j]?).map fun b=>Value.int .u8 b.toNat:=by simp [u8s]
theorem u8s_at {l:List UInt8} {j:Nat} (h:j < l.length):(u8s l)[j]? =some (.int .u8 l[j]!.toNat):=by rw [u8s_get,gget h];rfl
theorem u8s_append {a b:List UInt8}:u8s (a ++ b)=u8s a ++ u8s b:=by simp [u8s]
theorem u8s_take {l:List UInt8} {n:Nat}:(u8s l).take n=u8s (l.take n):=by simp [u8s,List.map_take]
theorem u8s_drop {l:List UInt8} {n:Nat}:(u8s l).drop n=u8s (l.drop n):=by simp [u8s,List.map_drop]
theorem u8s_setb {l:List UInt8} {j:Nat} {b:UInt8}:(u8s l).set j (.int .u8 b.toNat)=u8s (l.set j b):=by simp [u8s,List.map_set]
theorem u8s_set {l:List UInt8} {j:Nat} {n:Nat}:(u8s l).set j (.int .u8 ((UInt8.ofNat n).toNat:Nat))=u8s (l.set j (UInt8.ofNat n)):=u8s_setb
theorem ints_zeros_u8 {n:Nat}:ints .u8 (List.replicate n 0)=u8s (List.replicate n 0):=by simp [ints,u8s]
theorem gbytes_u8s:∀ (l:List UInt8),gbytes (u8s l)=some l
 |[]=>rfl
 |b :: l=>by
  show ((gbytes (u8s l)).map fun l=>UInt8.ofNat (Int.toNat (b.toNat:Nat)) :: l)=_
  rw [gbytes_u8s l]
  simp
def strB (l:List UInt8):ByteArray:=⟨l.toArray⟩
theorem strB_toList (l:List UInt8):(strB l).toList=l:=by rw [ByteArray.toList_eq];rfl
theorem strB_data (l:List UInt8):(strB l).data.toList=l:=rfl
theorem strB_size (l:List UInt8):(strB l).size=l.length:=by simp [strB,ByteArray.size]
theorem strB_of (s:ByteArray):strB s.data.toList=s:=by cases s;simp [strB]
theorem gb_eqlB {e:Option EqK} {a b:List UInt8}:gbin .eql e (.string (strB a)) (.string (strB b))=some (.bool (decide (a=b))):=by
 simp only [gbin,gstr,strB_toList]
 by_cases h:a=b<;>simp [h]
theorem gb_neqB {e:Option EqK} {a b:List UInt8}:gbin .neq e (.string (strB a)) (.string (strB b))=some (.bool (decide (¬ a=b))):=by
 simp only [gbin,gstr,strB_toList]
 by_cases h:a=b<;>simp [h]
abbrev RB (H:GHeap) (v:Value) (l:List UInt8):Prop:=GArg1 H 1 v l.length (u8s l)
section
variable {H H':GHeap} {v:Value} {l:List UInt8}
theorem RB.isSl (h:RB H v l):IsSl v l.length:=h.rd.isSl
theorem RB.read (h:RB H v l) {k:Nat} (hk:k < l.length):H.rd (blk v) (ofs v+k)=some (.int .u8 l[k]!.toNat):=by
 rw [h.rd.rd (by rw [u8s_length];exact hk),u8s_at hk]
theorem RB.lt (h:RB H v l) (hn:0 < l.length):blk v < H.len:=h.rd.lt hn
theorem RB.new {i gc:Nat} (hw:H.wf) (hm:H.mine i=some (u8s l,257)) (hg:gc=0∨gc=l.length+1):RB H (.slice (some ⟨i,0,none⟩) l.length gc) l:=
 OwnG.arg (u:=257) hw ⟨by rw [u8s_length,Nat.mul_one],.inr ⟨i,gc,rfl,hg,hm⟩⟩ (.inr rfl)
theorem RB.nil:RB H (.slice none 0 0) []:=
 ⟨⟨rfl,none,0,rfl,fun h=>absurd h (by simp)⟩,none,0,rfl,.inl rfl,fun _=>.inl rfl,fun _ _ e=>by cases e⟩
theorem RB.same_ (h:RB H v l) (hw:H.wf) (hs:Same H H'):RB H' v l:=GArg1.same h hw hs
theorem RB.cells (h:RB H v l):gcells 1 l.length H v=some (u8s l):=gcells_arg h
theorem RB.count (h:RB H v l):gcount v=some l.length:=by
 obtain ⟨a,gc,rfl,_⟩:=h.sl;rfl
theorem RB.str (h:RB H v l):gconv .ofBytes H v=some (.string (strB l),none):=by
 have hc:=h.cells
 obtain ⟨a,gc,rfl,_⟩:=h.sl
 simp only [gconv,hc,Option.bind_some,gbytes_u8s,Option.map_some];rfl
theorem RB.slice (h:RB H v l) {k:IntKind} {a b:Int} (h0:0≤a) (h1:a≤b) (h2:b≤l.length):
 ∃ v',gslice (.sl 1) H v (some (.int k a)) (some (.int k b)) none=some v'∧RB H v' ((l.drop a.toNat).take (b.toNat - a.toNat)):=by
 obtain ⟨v',e1,e2⟩:=GArg1.cut (size:=1) h (k:=k) h0 h1 h2
 refine ⟨v',e1,?_⟩
 have hl:((l.drop a.toNat).take (b.toNat - a.toNat)).length=b.toNat - a.toNat:=by simp;omega
 show GArg1 H 1 v' ((l.drop a.toNat).take (b.toNat - a.toNat)).length _
 rw [hl]
 have:=e2.1
 simpa [u8s_take,u8s_drop,Nat.mul_one] using this
end
section
variable {H:GHeap} {v:Value} {l:List UInt8}
theorem RB.pre (h:RB H v l) {k:IntKind} {b:Int} (h1:0≤b) (h2:b≤l.length):∃ v',gslice (.sl 1) H v none (some (.int k b)) none=some v'∧RB H v' (l.take b.toNat):=by
 obtain ⟨v',e1,e2⟩:=h.slice (k:=k) (Int.le_refl 0) h1 h2
 refine ⟨v',?_,by simpa using e2⟩
 rw [gslice_lo0 (k:=k) (by intro x hx;cases hx;exact ⟨_,_,rfl⟩)];exact e1
theorem RB.suf (h:RB H v l) {k:IntKind} {a:Int} (h1:0≤a) (h2:a≤l.length):∃ v',gslice (.sl 1) H v (some (.int k a)) none none=some v'∧RB H v' (l.drop a.toNat):=by
 obtain ⟨v',e1,e2⟩:=h.slice (k:=k) h1 h2 (Int.le_refl _)
 refine ⟨v',?_,?_⟩
 ·rw [gslice_hi h (k:=k)];exact e1
 ·rw [Int.toNat_natCast,List.take_of_length_le (by simp)] at e2;exact e2
end
structure OB (H0 H:GHeap) (v:Value) (l:List UInt8):Prop where
 same:Same H0 H
 own:OwnG H v 1 257 l.length (u8s l)
 young:v=.slice none 0 0∨H0.len≤blk v
section
variable {H0 H H':GHeap} {v x:Value} {l a b:List UInt8}
theorem OB.nil (hs:Same H0 H):OB H0 H (.slice none 0 0) []:=⟨hs,⟨rfl,.inl ⟨rfl,rfl⟩⟩,.inl rfl⟩
theorem OB.rb (h:OB H0 H v l):RB H v l:=OwnG.arg h.same.wf h.own (.inr rfl)
theorem OB.later (h:OB H0 H v l) (hs:Same H H'):OB H0 H' v l:=by
 refine ⟨h.same.trans hs,⟨h.own.len,h.own.at_.imp id fun ⟨i,gc,e,hg,hm⟩=>⟨i,gc,e,hg,?_⟩⟩,h.young⟩
 rw [hs.mine (mine_lt h.same.wf hm)];exact hm
theorem OB.made (hs:Same H0 H) {n:Nat} (hn:n=l.length) (gc:Nat) (hg:gc=0∨gc=n+1):OB H0 (H.add (some (.cells (u8s l) 257 true))) (.slice (some ⟨H.len,0,none⟩) n gc) l:=by
 subst hn
 exact ⟨hs.add _,⟨by rw [u8s_length,Nat.mul_one],.inr ⟨_,gc,rfl,hg,mine_add_eq rfl hs.wf.1⟩⟩,.inr hs.len⟩
theorem OB.app (h:OB H0 H v a) (hx:RB H x b) (hl:a.length+b.length≤140737488355328):∃ v' H',gapp 1 1 257 H v x=some (v',H')∧OB H0 H' v' (a ++ b):=by
 by_cases hb:b.length=0
 ·obtain rfl:b=[]:=List.eq_nil_of_length_eq_zero hb
  refine ⟨v,H,?_,by simpa using h⟩
  have h1:=hx.count
  have h2:=hx.cells
  obtain ⟨av,gc,hv,_⟩:∃ av gc,v=.slice av a.length gc∧True:=by
   rcases h.own.at_ with ⟨e,e2⟩|⟨i,gc,e,_⟩
   ·exact ⟨none,0,by rw [e,e2],trivial⟩
   ·exact ⟨_,gc,e,trivial⟩
  simp only [gapp,h1,Option.bind_some,h2,hv]
  rfl
 ·obtain ⟨v',H',e1,e2,e3,e4,e5,e6,e7⟩:=gapp_own (bytes:=1) h.same.wf h.own (by decide) (by decide) hx.count hx.cells (by rw [u8s_length,Nat.mul_one]) (by omega) (by omega) (by omega)
  refine ⟨v',H',e1,⟨?_,?_,.inr (by rw [e6];exact h.same.len)⟩⟩
  ·refine ⟨e4.trans h.same.lim,by have:=h.same.len;omega,fun i hi=>?_,e3⟩
   rw [e7 i (Nat.lt_of_lt_of_le hi h.same.len) ?_]
   ·exact h.same.obj i hi
   ·rcases h.young with e|e
    ·exact .inr e
    ·exact .inl (by omega)
  ·rw [u8s_append,List.length_append];exact e2
end
structure But (S:Nat→Prop) (H H':GHeap):Prop where
 lim:H'.lim=H.lim
 len:H.len≤H'.len
 obj:∀ k,k < H.len→¬ S k→H'.obj k=H.obj k
 wf:H'.wf
section
variable {H H' H2 H0:GHeap} {S:Nat→Prop}
theorem But.refl (hw:H.wf):But S H H:=⟨rfl,Nat.le_refl _,fun _ _ _=>rfl,hw⟩
theorem But.trans (h:But S H H') (k:But S H' H2):But S H H2:=
 ⟨k.lim.trans h.lim,Nat.le_trans h.len k.len,fun i hi hs=>(k.obj i (Nat.lt_of_lt_of_le hi h.len) hs).trans (h.obj i hi hs),k.wf⟩
theorem But.of (h:Same H H'):But S H H':=⟨h.lim,h.len,fun i hi _=>h.obj i hi,h.wf⟩
theorem But.put (h:But S H H') {i:Nat} (hi:S i) (hl:i < H'.len) (o:GObj):But S H (H'.put i o):=by
 refine ⟨h.lim,h.len,fun k hk hs=>?_,wf_put h.wf hl o⟩
 rw [obj_put,if_neg (by rintro rfl;exact hs hi)];exact h.obj k hk hs
theorem But.mine (h:But S H H') {i:Nat} (hi:i < H.len) (hs:¬ S i):H'.mine i=H.mine i:=by simp only [GHeap.mine,h.lim,h.obj i hi hs]
theorem But.same (h:But S H H') (h0:Same H0 H) (hs:∀ k,k < H0.len→¬ S k):Same H0 H':=
 ⟨h.lim.trans h0.lim,Nat.le_trans h0.len h.len,fun i hi=>(h.obj i (Nat.lt_of_lt_of_le hi h0.len) (hs i hi)).trans (h0.obj i hi),h.wf⟩
theorem But.mono {T:Nat→Prop} (h:But S H H') (hs:∀ k,S k→T k):But T H H':=⟨h.lim,h.len,fun i hi ht=>h.obj i hi fun hh=>ht (hs i hh),h.wf⟩
end
section
variable {H H':GHeap}
theorem RB.but {S:Nat→Prop} {v:Value} {l:List UInt8} (h:RB H v l) (hw:H.wf) (hb:But S H H') (ha:∀ a ∈ idOf v,¬ S a):RB H' v l:=by
 obtain ⟨⟨h1,a,gc,rfl,h3⟩,a',gc',e,k0,k1,k2⟩:=h
 cases e
 refine ⟨⟨h1,a,gc,rfl,fun hn=>?_⟩,a,gc,rfl,k0,k1,fun i o he=>?_⟩
 ·obtain ⟨i,o,cs,rfl,hi,hcs,hx⟩:=h3 hn
  refine ⟨i,o,cs,rfl,Nat.lt_of_lt_of_le hi hb.len,?_,hx⟩
  unfold GHeap.cs at hcs ⊢
  rw [hb.obj i hi (ha i (by simp [idOf]))];exact hcs
 ·subst he
  obtain ⟨u,hu,hu2⟩:=k2 i o rfl
  refine ⟨u,?_,hu2⟩
  unfold GHeap.unit at hu ⊢
  have hi:i < H.len:=(hw.2 i).1 (by cases ho:H.obj i<;>simp_all)
  rw [hb.obj i hi (ha i (by simp [idOf]))];exact hu
end
structure OS (s u:Nat) (H0 H:GHeap) (v:Value) (n:Nat) (xs:List Value):Prop where
 same:Same H0 H
 own:OwnG H v s u n xs
 young:v=.slice none 0 0∨H0.len≤blk v
section
variable {s u n:Nat} {H0 H H':GHeap} {v:Value} {xs:List Value}
theorem OS.nil (hs:Same H0 H):OS s u H0 H (.slice none 0 0) 0 []:=⟨hs,⟨by simp,.inl ⟨rfl,rfl⟩⟩,.inl rfl⟩
theorem OS.later (h:OS s u H0 H v n xs) (hs:Same H H'):OS s u H0 H' v n xs:=by
 refine ⟨h.same.trans hs,⟨h.own.len,h.own.at_.imp id fun ⟨i,gc,e,hg,hm⟩=>⟨i,gc,e,hg,?_⟩⟩,h.young⟩
 rw [hs.mine (mine_lt h.same.wf hm)];exact hm
theorem OS.but {S:Nat→Prop} (h:OS s u H0 H v n xs) (hb:But S H H') (h0:∀ k,k < H0.len→¬ S k) (ha:∀ a ∈ idOf v,¬ S a):OS s u H0 H' v n xs:=by
 refine ⟨hb.same h.same h0,⟨h.own.len,h.own.at_.imp id fun ⟨i,gc,e,hg,hm⟩=>⟨i,gc,e,hg,?_⟩⟩,h.young⟩
 rw [hb.mine (mine_lt h.same.wf hm) (ha i (by rw [e];simp [idOf]))];exact hm
theorem OS.app1 (h:OS s u H0 H v n xs) (hu:u≠0) (hs:s≠0) {news:List Value} (hn:news.length=s) {b:Nat} (hb:(n+1) * b≤140737488355328) (hk:n < 140737488355328):
 ∃ v' H',gapp s b u (H.add (some (.cells news u true))) v (.slice (some ⟨H.len,0,none⟩) 1 2)=some (v',H')∧OS s u H0 H' v' (n+1) (xs ++ news)∧But (fun j=>j ∈ idOf v) H H':=by
 have hw:=h.same.wf
 have hw2:=(Fwd.add hw (some (.cells news u true))).wf hw
 have hO2:OwnG (H.add (some (.cells news u true))) v s u n xs:=⟨h.own.len,h.own.at_.imp id fun ⟨j,gc,e,hg,hm⟩=>⟨j,gc,e,hg,by rw [mine_add_ne (by have:=mine_lt hw hm;omega)];exact hm⟩⟩
 obtain ⟨v',H',k1,k2,k3,k4,k5,k6,k7⟩:=gapp_own (bytes:=b) (m:=1) (x:=.slice (some ⟨H.len,0,none⟩) 1 2) (news:=news) hw2 hO2 hu hs rfl (gcells_own (mine_add_eq rfl hw.1) (by omega)) (by omega) (by omega) (by omega) (by omega)
 have key:∀ j,j < H.len→¬ j ∈ idOf v→H'.obj j=H.obj j:=fun j hj hne=>by
  rw [k7 j (Nat.lt_succ_of_lt hj) ?_,obj_add,if_neg (by omega)]
  rcases h.own.at_ with ⟨e,_⟩|⟨i,gc,e,_⟩
  ·exact .inr e
  ·refine .inl fun e2=>hne ?_
   rw [e2,e];simp [idOf,blk]
 refine ⟨v',H',k1,⟨?_,k2,.inr (by rw [k6,len_add];have:=h.same.len;omega)⟩,⟨k4,by rw [k5,len_add];omega,key,k3⟩⟩
 refine (h.same.add _).of_obj k3 k4 (by omega) fun j hj=>?_
 have hj2:=Nat.lt_of_lt_of_le hj h.same.len
 rw [key j hj2,obj_add,if_neg (by omega)]
 rcases h.own.at_ with ⟨e,_⟩|⟨i,gc,e,_⟩
 ·rw [e];simp [idOf]
 ·rcases h.young with e2|e2
  ·rw [e2];simp [idOf]
  ·rw [e] at e2 ⊢
   have:H0.len≤i:=e2
   simp only [idOf,List.mem_singleton]
   omega
theorem OS.rd (h:OS s u H0 H v n xs):GRd H s v n xs:=h.own.rd h.same.wf
end
section
variable {H H':GHeap} {v:Value} {l:List UInt8}
theorem wf_up (hw:H.wf):H.up.wf:=⟨Nat.le_refl _,hw.2⟩
theorem RB.up (h:RB H v l):RB H.up v l:=⟨h.rd,h.sl⟩
theorem mine_down {i lim:Nat} {c:List Value × Nat} (h:H.mine i=some c) (hl:lim≤H.lim):(H.down lim).mine i=some c:=by
 obtain ⟨h1,h2⟩:=mine_obj h
 have h3:(H.down lim).obj i=some (.cells c.1 c.2 true):=h2
 have h4:(H.down lim).lim≤i:=Nat.le_trans hl h1
 simp only [GHeap.mine,h4,if_true,h3]
theorem Same.down (hw:H.wf) (h:Same H.up H'):Same H (H'.down H.lim):=
 ⟨rfl,h.len,h.obj,⟨by have:=h.len;have:=hw.1;exact Nat.le_trans hw.1 h.len,h.wf.2⟩⟩
theorem OB.down (hw:H.wf) (h:OB H.up H' v l):OB H (H'.down H.lim) v l:=
 ⟨h.same.down hw,⟨h.own.len,h.own.at_.imp id fun ⟨i,gc,e,hg,hm⟩=>⟨i,gc,e,hg,mine_down hm (by rw [h.same.lim];exact hw.1)⟩⟩,h.young⟩
theorem updown:H.up.down H.lim=H:=rfl
end
section
variable {α:Type} {f:α→List Value} {s:Nat}
theorem rows_len (hf:∀ x,(f x).length=s):∀ l:List α,(l.flatMap f).length=l.length * s
 |[]=>by simp
 |x :: l=>by rw [List.flatMap_cons,List.length_append,hf,rows_len hf l,List.length_cons,Nat.add_mul];omega
variable [Inhabited α]
theorem rows_part (hf:∀ x,(f x).length=s):∀ (l:List α) (k:Nat),k < l.length→((l.flatMap f).drop (k * s)).take s=f l[k]!
 |x :: l,0,_=>by
  rw [Nat.zero_mul,List.drop_zero,List.flatMap_cons,← hf x,List.take_left];rfl
 |x :: l,k+1,h=>by
  rw [List.flatMap_cons,Nat.add_mul,Nat.one_mul,Nat.add_comm,← List.drop_drop,List.drop_left' (hf x),rows_part hf l k (by simpa using h)]
  rfl
theorem rows_get (hf:∀ x,(f x).length=s) (l:List α) {k c:Nat} (h:k < l.length) (hc:c < s):(l.flatMap f)[k * s+c]? =(f l[k]!)[c]?:=by
 have:=rows_part hf l k h
 rw [← this,List.getElem?_take_of_lt hc,List.getElem?_drop]
theorem GRd.row {H:GHeap} {v:Value} {l:List α} {n:Nat} (h:GRd H s v n (l.flatMap f)) (hf:∀ x,(f x).length=s) {k c:Nat} (hk:k < l.length) (hc:c < s):H.rd (blk v) (ofs v+k * s+c)=(f l[k]!)[c]?:=by
 have hlen:=rows_len hf l
 have:k * s+c < (l.flatMap f).length:=by
  rw [hlen]
  have:(k+1) * s≤l.length * s:=Nat.mul_le_mul_right _ hk
  rw [Nat.add_mul] at this
  omega
 rw [Nat.add_assoc,h.rd this,rows_get hf l hk hc]
theorem GRd.rowN {H:GHeap} {v:Value} {l:List α} {n:Nat} (h:GRd H s v n (l.flatMap f)) (hf:∀ x,(f x).length=s) (hs:0 < s) {k:Nat} (hk:k < l.length):H.rdn (blk v) (ofs v+k * s) s=some (.agg (f l[k]!).toArray):=by
 have hlen:=rows_len hf l
 have:(k+1) * s≤l.length * s:=Nat.mul_le_mul_right _ hk
 rw [Nat.add_mul] at this
 rw [h.rdn hs hs (by omega),rows_part hf l k hk]
end
theorem wrap_u8n {n:Nat}:IntKind.u8.wrap (n:Int)=((UInt8.ofNat n).toNat:Int):=by
 rw [IntKind.wrap_u8',UInt8.toNat_ofNat'];omega
theorem wrap_u32n {n:Nat} (h:n < 4294967296):IntKind.u32.wrap (n:Int)=n:=by rw [IntKind.wrap_u32'];omega
theorem bv_nat {w:Nat} {a:Nat}:BitVec.ofInt w (a:Int)=BitVec.ofNat w a:=by
 apply BitVec.eq_of_toNat_eq
 simp [BitVec.toNat_ofInt]
theorem fdiv_nat {a b:Nat}:((a:Int).fdiv (2 ^ b))=((a / 2 ^ b:Nat):Int):=by
 have:(2:Int) ^ b=((2 ^ b:Nat):Int):=by simp
 rw [this,Int.fdiv_eq_ediv_of_nonneg _ (Int.natCast_nonneg _)]
 rfl
theorem gb_shr {e:Option EqK} {k k':IntKind} {a s:Nat} (h:s≤k.bits):gbin .shr e (.int k (a:Int)) (.int k' (s:Int))=some (.int k ((a / 2 ^ s:Nat):Int)):=by
 simp only [gbin,gshift]
 rw [if_neg (by omega),Int.toNat_natCast,Nat.min_eq_left h,fdiv_nat]
theorem gcv_int {H:GHeap} {k k':IntKind} {n:Int}:gconv (.int k) H (.int k' n)=some (.int k (k.wrap n),none):=rfl
end Go.Gh
namespace Go.Gh
set_option linter.unusedVariables false
set_option linter.unusedSimpArgs false
def dic (L:List (Int × Int)):List (Value × Value):=L.map fun p=>(.int .i64 p.1,.int .i64 p.2)
def dfind (a:Int):List (Int × Int)→Option Int
 |[]=>none
 |(b,v) :: r=>if a=b then some v else dfind a r
def dset (a v:Int):List (Int × Int)→List (Int × Int)
 |[]=>[(a,v)]
 |(b,u) :: r=>if a=b then (a,v) :: r else (b,u) :: dset a v r
theorem gfind_dic {a:Int}:∀ (L:List (Int × Int)),gfind .i64 a (dic L)=some ((dfind a L).map (.int .i64))
 |[]=>rfl
 |(b,v) :: r=>by
  have ih:=gfind_dic (a:=a) r
  simp only [dic,List.map_cons,gfind,if_true] at ih ⊢
  by_cases h:a=b
  ·simp [h,dfind]
  ·simp only [if_neg h,dfind];exact ih
theorem gsetE_dic {a v:Int}:∀ (L:List (Int × Int)),gsetE .i64 a (.int .i64 v) (dic L)=some (dic (dset a v L))
 |[]=>rfl
 |(b,u) :: r=>by
  have ih:=gsetE_dic (a:=a) (v:=v) r
  simp only [dic,List.map_cons,gsetE,if_true] at ih ⊢
  by_cases h:a=b
  ·simp [h,dset]
  ·simp only [if_neg h,dset];rw [ih];rfl
theorem dfind_set {a b v:Int}:∀ (L:List (Int × Int)),dfind a (dset b v L)=if a=b then some v else dfind a L
 |[]=>by simp [dset,dfind]
 |(c,u) :: r=>by
  have ih:=dfind_set (a:=a) (b:=b) (v:=v) r
  by_cases h:b=c
  ·subst h
   by_cases h2:a=b<;>simp [dset,dfind,h2]
  ·by_cases h2:a=c
   ·subst h2
    simp [dset,dfind,h,Ne.symm h]
   ·simp [dset,dfind,h,h2,ih]
def GHeap.dct (H:GHeap) (i:Nat):Option (List (Value × Value)):=
 match H.obj i with
 |some (.dict es)=>some es
 |_=>none
section
variable {call:GCall} {fr:Fr} {H H':GHeap}
theorem dct_put_same {i:Nat} {es:List (Value × Value)}:(H.put i (.dict es)).dct i=some es:=by simp [GHeap.dct,obj_put]
theorem dct_put_ne {i j:Nat} {o:GObj} (h:i≠j):(H.put i o).dct j=H.dct j:=by simp [GHeap.dct,obj_put,h]
theorem dct_add_eq {j:Nat} {es:List (Value × Value)} (h:H.len=j):(H.add (some (.dict es))).dct j=some es:=by simp [GHeap.dct,obj_add,h]
theorem dct_add_ne {j:Nat} {o:GObj} (h:H.len≠j):(H.add (some o)).dct j=H.dct j:=by simp [GHeap.dct,obj_add,h]
theorem Same.dct (h:Same H H') {i:Nat} (hi:i < H.len):H'.dct i=H.dct i:=by simp only [GHeap.dct,h.obj i hi]
theorem gd_mkMap:gdo call fr H .mkMap=some (.map (some H.len),H.add (some (.dict []))):=by
 rw [gdo_m rfl rfl];rfl
theorem gd_look {z:Value} {ok:Bool} {x i:GArg}:gdo call fr H (.look z ok x i)=(x.ev fr).bind fun v=>(i.ev fr).bind fun j=>(glook z ok H v j).bind fun r=>some (r,H):=by
 rw [gdo_m rfl rfl];simp only [gopM];cases x.ev fr with
 |none=>rfl
 |some v=>
  simp only [Option.bind_some]
  cases i.ev fr with
  |none=>rfl
  |some u=>simp only [Option.bind_some];cases glook z ok H v u<;>rfl
theorem gd_mset {m i x:GArg}:gdo call fr H (.mset m i x)=(m.ev fr).bind fun m=>(i.ev fr).bind fun i=>(x.ev fr).bind fun v=>(gmset H m i v).bind fun H'=>some (undef,H'):=by
 rw [gdo_w rfl];simp only [gopW];cases m.ev fr with
 |none=>rfl
 |some v=>
  simp only [Option.bind_some]
  cases i.ev fr with
  |none=>rfl
  |some u=>
   simp only [Option.bind_some]
   cases x.ev fr with
   |none=>rfl
   |some y=>simp only [Option.bind_some];cases gmset H v u y<;>rfl
theorem gM_mkMap:gdoM call fr H .mkMap=gdo call fr H .mkMap:=gdoM_gdo rfl rfl
theorem gM_look {z:Value} {ok:Bool} {x i:GArg}:gdoM call fr H (.look z ok x i)=gdo call fr H (.look z ok x i):=gdoM_gdo rfl rfl
theorem glook_dic {z:Value} {ok:Bool} {r:Nat} {a:Int} {L:List (Int × Int)} (h:H.dct r=some (dic L)):glook z ok H (.map (some r)) (.int .i64 a)=some (gpair ok (((dfind a L).map (.int .i64)).getD z) (dfind a L).isSome):=by
 unfold GHeap.dct at h
 split at h
 ·rename_i es ho
  cases h
  simp only [glook,ho,gfind_dic]
  cases dfind a L<;>rfl
 ·cases h
theorem gmset_dic {r:Nat} {a v:Int} {L:List (Int × Int)} (h:H.dct r=some (dic L)) (hl:H.lim≤r):gmset H (.map (some r)) (.int .i64 a) (.int .i64 v)=some (H.put r (.dict (dic (dset a v L)))):=by
 unfold GHeap.dct at h
 split at h
 ·rename_i es ho
  cases h
  have hf:litFlat (.int .i64 v)=true:=rfl
  simp only [gmset,hl,hf,and_self,if_true,ho,gsetE_dic,Option.map_some]
 ·cases h
end
theorem SM:type_of% (And.intro (And.intro @gd_mkMap @gd_look) (And.intro @gd_mset (And.intro @gM_mkMap @gM_look))):=⟨⟨@gd_mkMap,@gd_look⟩,⟨@gd_mset,⟨@gM_mkMap,@gM_look⟩⟩⟩
theorem SN:type_of% (And.intro (And.intro @dct_put_same @dct_put_ne) (And.intro @dct_add_eq (And.intro @dct_add_ne (And.intro @glook_dic @gmset_dic)))):=⟨⟨@dct_put_same,@dct_put_ne⟩,⟨@dct_add_eq,⟨@dct_add_ne,⟨@glook_dic,@gmset_dic⟩⟩⟩⟩
end Go.Gh
namespace Go.Gh
set_option linter.unusedVariables false
set_option linter.unusedSimpArgs false
theorem SA:type_of% (And.intro (And.intro (And.intro (And.intro (And.intro (@gd_move) (And.intro (@gd_pick) (@gd_alloc))) (And.intro (And.intro (@gd_load) (@gd_bin)) (And.intro (@gd_un) (@gd_fa)))) (And.intro (And.intro (@gd_ia) (And.intro (@gd_len) (@gd_lenOf))) (And.intro (And.intro (@gd_store) (@gd_ix)) (And.intro (@gd_fld) (@gd_cap))))) (And.intro (And.intro (And.intro (@gd_ext') (And.intro (@gd_conv) (@gd_mk))) (And.intro (And.intro (@gd_app) (@gd_copy)) (And.intro (@gd_next) (@gd_fn)))) (And.intro (And.intro (And.intro (@gd_min) (@gd_max)) (And.intro (@gd_slice) (@gd_build))) (And.intro (And.intro (@gd_buildSl) (@gd_box)) (And.intro (@gd_nilc') (@gd_rng)))))) (And.intro (And.intro (And.intro (And.intro (@gd_appM) (And.intro (@gd_appZ) (@gd_keep))) (And.intro (And.intro (@gM_move) (@gM_pick)) (And.intro (@gM_alloc) (@gM_load)))) (And.intro (And.intro (And.intro (@gM_bin) (@gM_un)) (And.intro (@gM_fa) (@gM_ia))) (And.intro (And.intro (@gM_len) (@gM_lenOf)) (And.intro (@gM_ix) (@gM_fld))))) (And.intro (And.intro (And.intro (@gM_cap) (And.intro (@gM_ext) (@gM_conv))) (And.intro (And.intro (@gM_mk) (@gM_fn)) (And.intro (@gM_min) (@gM_max)))) (And.intro (And.intro (And.intro (@gM_slice) (@gM_build)) (And.intro (@gM_buildSl) (@gM_box))) (And.intro (And.intro (@gM_nilc) (@gM_rng)) (And.intro (@gM_appM) (@Tr.get_set))))))):=And.intro (And.intro (And.intro (And.intro (And.intro (@gd_move) (And.intro (@gd_pick) (@gd_alloc))) (And.intro (And.intro (@gd_load) (@gd_bin)) (And.intro (@gd_un) (@gd_fa)))) (And.intro (And.intro (@gd_ia) (And.intro (@gd_len) (@gd_lenOf))) (And.intro (And.intro (@gd_store) (@gd_ix)) (And.intro (@gd_fld) (@gd_cap))))) (And.intro (And.intro (And.intro (@gd_ext') (And.intro (@gd_conv) (@gd_mk))) (And.intro (And.intro (@gd_app) (@gd_copy)) (And.intro (@gd_next) (@gd_fn)))) (And.intro (And.intro (And.intro (@gd_min) (@gd_max)) (And.intro (@gd_slice) (@gd_build))) (And.intro (And.intro (@gd_buildSl) (@gd_box)) (And.intro (@gd_nilc') (@gd_rng)))))) (And.intro (And.intro (And.intro (And.intro (@gd_appM) (And.intro (@gd_appZ) (@gd_keep))) (And.intro (And.intro (@gM_move) (@gM_pick)) (And.intro (@gM_alloc) (@gM_load)))) (And.intro (And.intro (And.intro (@gM_bin) (@gM_un)) (And.intro (@gM_fa) (@gM_ia))) (And.intro (And.intro (@gM_len) (@gM_lenOf)) (And.intro (@gM_ix) (@gM_fld))))) (And.intro (And.intro (And.intro (@gM_cap) (And.intro (@gM_ext) (@gM_conv))) (And.intro (And.intro (@gM_mk) (@gM_fn)) (And.intro (@gM_min) (@gM_max)))) (And.intro (And.intro (And.intro (@gM_slice) (@gM_build)) (And.intro (@gM_buildSl) (@gM_box))) (And.intro (And.intro (@gM_nilc) (@gM_rng)) (And.intro (@gM_appM) (@Tr.get_set))))))
theorem SB:type_of% (And.intro (And.intro (And.intro (And.intro (And.intro (And.intro (@add_none) (@gb_lss)) (And.intro (@gb_gtr) (@gb_leq))) (And.intro (And.intro (@gb_geq) (@gb_add)) (And.intro (@gb_sub) (And.intro (@gb_mul) (@gb_eql'))))) (And.intro (And.intro (And.intro (@gb_neq') (@gu_not)) (And.intro (@gu_neg) (@gfold_min1))) (And.intro (And.intro (@gfold_max1) (@wr_i64)) (And.intro (@wr_i32) (And.intro (@wr_u8) (@wr_u16)))))) (And.intro (And.intro (And.intro (And.intro (@wr_u32) (@glen_sl)) (And.intro (@glen_str) (@gadd_ptr))) (And.intro (And.intro (@gia_sl) (@gmake_sq)) (And.intro (@zeros_ints) (And.intro (@zeros_sl) (@gld_1))))) (And.intro (And.intro (And.intro (@gld_n) (@gst_1)) (And.intro (@gst_n) (@gset_ok))) (And.intro (And.intro (@gsetn_all) (@rd_put_same)) (And.intro (@rd_put_ne) (And.intro (@rd_add_eq) (@rd_add_ne))))))) (And.intro (And.intro (And.intro (And.intro (And.intro (@rdn_put_ne) (@rdn_add_ne)) (And.intro (@rdn_put_all) (@rdn_add_all))) (And.intro (And.intro (@mine_put_same) (@mine_put_ne)) (And.intro (@mine_add_eq) (And.intro (@mine_add_ne) (@len_put))))) (And.intro (And.intro (And.intro (@len_add) (@lim_put)) (And.intro (@lim_add) (@ints_at))) (And.intro (And.intro (@ints_set) (@ints_length)) (And.intro (@u8s_at) (And.intro (@u8s_set) (@u8s_length)))))) (And.intro (And.intro (And.intro (And.intro (@ints_zeros_u8) (@agg_all)) (And.intro (@agg_list) (@fillL_set))) (And.intro (And.intro (@flatV_int) (@flatV_bool)) (And.intro (@flatV_str) (And.intro (@flatV_ptr) (@flatV_sl))))) (And.intro (And.intro (And.intro (@put_put) (@gcv_int)) (And.intro (@wrap_u8n) (And.intro (@gb_eqlB) (@gb_neqB)))) (And.intro (And.intro (@blk_sl) (@ofs_sl)) (And.intro (@fillL_1) (And.intro (@fillL_0) (@ints_nil)))))))):=And.intro (And.intro (And.intro (And.intro (And.intro (And.intro (@add_none) (@gb_lss)) (And.intro (@gb_gtr) (@gb_leq))) (And.intro (And.intro (@gb_geq) (@gb_add)) (And.intro (@gb_sub) (And.intro (@gb_mul) (@gb_eql'))))) (And.intro (And.intro (And.intro (@gb_neq') (@gu_not)) (And.intro (@gu_neg) (@gfold_min1))) (And.intro (And.intro (@gfold_max1) (@wr_i64)) (And.intro (@wr_i32) (And.intro (@wr_u8) (@wr_u16)))))) (And.intro (And.intro (And.intro (And.intro (@wr_u32) (@glen_sl)) (And.intro (@glen_str) (@gadd_ptr))) (And.intro (And.intro (@gia_sl) (@gmake_sq)) (And.intro (@zeros_ints) (And.intro (@zeros_sl) (@gld_1))))) (And.intro (And.intro (And.intro (@gld_n) (@gst_1)) (And.intro (@gst_n) (@gset_ok))) (And.intro (And.intro (@gsetn_all) (@rd_put_same)) (And.intro (@rd_put_ne) (And.intro (@rd_add_eq) (@rd_add_ne))))))) (And.intro (And.intro (And.intro (And.intro (And.intro (@rdn_put_ne) (@rdn_add_ne)) (And.intro (@rdn_put_all) (@rdn_add_all))) (And.intro (And.intro (@mine_put_same) (@mine_put_ne)) (And.intro (@mine_add_eq) (And.intro (@mine_add_ne) (@len_put))))) (And.intro (And.intro (And.intro (@len_add) (@lim_put)) (And.intro (@lim_add) (@ints_at))) (And.intro (And.intro (@ints_set) (@ints_length)) (And.intro (@u8s_at) (And.intro (@u8s_set) (@u8s_length)))))) (And.intro (And.intro (And.intro (And.intro (@ints_zeros_u8) (@agg_all)) (And.intro (@agg_list) (@fillL_set))) (And.intro (And.intro (@flatV_int) (@flatV_bool)) (And.intro (@flatV_str) (And.intro (@flatV_ptr) (@flatV_sl))))) (And.intro (And.intro (And.intro (@put_put) (@gcv_int)) (And.intro (@wrap_u8n) (And.intro (@gb_eqlB) (@gb_neqB)))) (And.intro (And.intro (@blk_sl) (@ofs_sl)) (And.intro (@fillL_1) (And.intro (@fillL_0) (@ints_nil)))))))
theorem SD:type_of% (And.intro (And.intro (And.intro (@ints_length) (@u8s_length)) (And.intro (@len_put) (And.intro (@len_add) (@lim_put)))) (And.intro (And.intro (@lim_add) (And.intro (@flatV_int) (@flatV_bool))) (And.intro (@flatV_str) (And.intro (@flatV_ptr) (@flatV_sl))))):=And.intro (And.intro (And.intro (@ints_length) (@u8s_length)) (And.intro (@len_put) (And.intro (@len_add) (@lim_put)))) (And.intro (And.intro (@lim_add) (And.intro (@flatV_int) (@flatV_bool))) (And.intro (@flatV_str) (And.intro (@flatV_ptr) (@flatV_sl))))
theorem SC:type_of% (And.intro (And.intro (And.intro (And.intro (@Option.bind_some.{0,0}) (And.intro (@Option.map_some.{0,0}) (@Option.map_map.{0,0,0}))) (And.intro (And.intro (@List.all_cons.{0}) (@List.all_nil.{0})) (And.intro (@List.set_cons_succ.{0}) (@List.set_cons_zero.{0})))) (And.intro (And.intro (@List.getElem?_toArray.{0}) (And.intro (@List.getElem?_cons_zero.{0}) (@List.getElem?_cons_succ.{0}))) (And.intro (And.intro (@List.length_cons.{0}) (@List.length_nil.{0})) (And.intro (@List.length_set.{0}) (@List.size_toArray.{0}))))) (And.intro (And.intro (And.intro (@Int.toNat_natCast) (And.intro (@Nat.mul_one) (@Nat.add_zero))) (And.intro (And.intro (@Nat.zero_add) (@ite_true.{1})) (And.intro (@ite_false.{1}) (@Bool.and_self)))) (And.intro (And.intro (@Bool.and_true) (And.intro (@Bool.false_eq_true) (@decide_true))) (And.intro (And.intro (@decide_false) (@Bool.not_true)) (And.intro (@Bool.not_false) (@List.replicate_zero.{0})))))):=And.intro (And.intro (And.intro (And.intro (@Option.bind_some.{0,0}) (And.intro (@Option.map_some.{0,0}) (@Option.map_map.{0,0,0}))) (And.intro (And.intro (@List.all_cons.{0}) (@List.all_nil.{0})) (And.intro (@List.set_cons_succ.{0}) (@List.set_cons_zero.{0})))) (And.intro (And.intro (@List.getElem?_toArray.{0}) (And.intro (@List.getElem?_cons_zero.{0}) (@List.getElem?_cons_succ.{0}))) (And.intro (And.intro (@List.length_cons.{0}) (@List.length_nil.{0})) (And.intro (@List.length_set.{0}) (@List.size_toArray.{0}))))) (And.intro (And.intro (And.intro (@Int.toNat_natCast) (And.intro (@Nat.mul_one) (@Nat.add_zero))) (And.intro (And.intro (@Nat.zero_add) (@ite_true.{1})) (And.intro (@ite_false.{1}) (@Bool.and_self)))) (And.intro (And.intro (@Bool.and_true) (And.intro (@Bool.false_eq_true) (@decide_true))) (And.intro (And.intro (@decide_false) (@Bool.not_true)) (And.intro (@Bool.not_false) (@List.replicate_zero.{0})))))
theorem SF:type_of% (And.intro (And.intro (And.intro (@List.length_set.{0}) (@List.length_cons.{0})) (And.intro (@List.length_nil.{0}) (And.intro (@List.length_replicate.{0}) (@List.all_cons.{0})))) (And.intro (And.intro (@List.all_nil.{0}) (And.intro (@Bool.and_self) (@Bool.and_true))) (And.intro (@decide_true) (And.intro (@List.size_toArray.{0}) (@Nat.zero_add))))):=And.intro (And.intro (And.intro (@List.length_set.{0}) (@List.length_cons.{0})) (And.intro (@List.length_nil.{0}) (And.intro (@List.length_replicate.{0}) (@List.all_cons.{0})))) (And.intro (And.intro (@List.all_nil.{0}) (And.intro (@Bool.and_self) (@Bool.and_true))) (And.intro (@decide_true) (And.intro (@List.size_toArray.{0}) (@Nat.zero_add))))
end Go.Gh
namespace Go.Gh
set_option linter.unusedVariables false
set_option linter.unusedSimpArgs false
theorem zK:type_of% @GX_up:=@GX_up
theorem zP:type_of% @GW_any:=@GW_any
theorem ev_t {fr:Fr} {n:Nat}:(GArg.t n).ev fr=fr.get n:=rfl
theorem ev_c {fr:Fr} {v:Value}:(GArg.c v).ev fr=some v:=rfl
theorem evs_n {fr:Fr}:evs fr []=some []:=rfl
theorem evs_c {fr:Fr} {x:GArg} {r:List GArg}:evs fr (x :: r)=match x.ev fr,evs fr r with
 |some v,some l=>some (v :: l)
 |_,_=>none:=rfl
theorem evo_n {fr:Fr}:evOpt fr none=some none:=rfl
theorem evo_s {fr:Fr} {x:GArg}:evOpt fr (some x)=(x.ev fr).map some:=rfl
theorem evp_n {fr:Fr}:evParts fr []=some []:=rfl
theorem evp_c {fr:Fr} {o n:Nat} {x:GArg} {r:List (Nat × Nat × GArg)}:evParts fr ((o,n,x) :: r)=match x.ev fr,evParts fr r with
 |some v,some l=>some ((o,n,v) :: l)
 |_,_=>none:=rfl
theorem setL_n {c:List Value}:setL c []=c:=rfl
theorem setL_c {c:List Value} {o n:Nat} {v:Value} {r:List (Nat × Nat × Value)}:setL c ((o,n,v) :: r)=setL (c.set o v) r:=rfl
theorem yG:type_of% (And.intro @Tr.get_set (And.intro @if_true.{1} @if_false.{1})):=⟨@Tr.get_set,⟨@if_true.{1},@if_false.{1}⟩⟩
theorem yS:type_of% (And.intro (And.intro (And.intro (And.intro @SA @SM) @ev_t) (And.intro @ev_c @evs_n)) (And.intro (And.intro @evs_c @evo_n) (And.intro @evo_s (And.intro @evp_n @evp_c)))):=⟨⟨⟨⟨@SA,@SM⟩,@ev_t⟩,⟨@ev_c,@evs_n⟩⟩,⟨⟨@evs_c,@evo_n⟩,⟨@evo_s,⟨@evp_n,@evp_c⟩⟩⟩⟩
theorem yT:type_of% (And.intro (And.intro (And.intro @SB @SN) (And.intro @SC @setL_n)) (And.intro @setL_c (And.intro @if_true.{1} @if_false.{1}))):=⟨⟨⟨@SB,@SN⟩,⟨@SC,@setL_n⟩⟩,⟨@setL_c,⟨@if_true.{1},@if_false.{1}⟩⟩⟩
theorem yD2:type_of% (And.intro @SD @SF):=⟨@SD,@SF⟩
theorem yL:type_of% (And.intro (And.intro (And.intro @decide_eq_true_eq @decide_eq_false_iff_not) (And.intro @Bool.not_eq_true' (And.intro @Bool.not_eq_false' @Int.not_lt))) (And.intro (And.intro @Int.not_le (And.intro @Bool.not_true @Bool.not_false)) (And.intro @Bool.true_eq_false (And.intro @Bool.false_eq_true @Decidable.not_not)))):=⟨⟨⟨@decide_eq_true_eq,@decide_eq_false_iff_not⟩,⟨@Bool.not_eq_true',⟨@Bool.not_eq_false',@Int.not_lt⟩⟩⟩,⟨⟨@Int.not_le,⟨@Bool.not_true,@Bool.not_false⟩⟩,⟨@Bool.true_eq_false,⟨@Bool.false_eq_true,@Decidable.not_not⟩⟩⟩⟩
class Nx (P:Prop) (Q:outParam Prop):Prop where
 pf:Q→P
class Ox (P:Prop) (Q:outParam Prop):Prop where
 pf:Q→P
theorem zn {P Q:Prop} [h:Nx P Q] (q:Q):P:=h.pf q
theorem zm {P Q:Prop} [h:Ox P Q] (q:Q):P:=h.pf q
section
variable {call:GCall} {fr:Fr} {H:GHeap} {ks:List Kt} {R I:Fr→GHeap→Prop} {a b:GCode} {id:Nat}
instance:Nx (GW call (.seq a b) ks R fr H) (GW call a (.seq b :: ks) R fr H):=⟨GW_seq⟩
instance {l:List GOper}:Nx (GW call (.line l) ks R fr H) (Gw (gdo call) l (GN call ks R) fr H):=⟨GW_line⟩
instance {run:Fr→GHeap→GOp→Option (Value × GHeap)} {K:Fr→GHeap→Prop}:Nx (Gw run [] K fr H) (K fr H):=⟨Gw_nil⟩
instance:Nx (GN call (.seq b :: ks) R fr H) (GW call b ks R fr H):=⟨GN_seq⟩
instance:Nx (GN call (.blk id :: ks) R fr H) (GN call ks R fr H):=⟨GN_blk⟩
instance:Nx (GW call (.block id a) ks R fr H) (GW call a (.blk id :: ks) R fr H):=⟨GW_block⟩
instance:Nx (GW call .skip ks R fr H) (GN call ks R fr H):=⟨GW_skip⟩
instance:Nx (GW call (.exit id) ks R fr H) (GX call id ks R fr H):=⟨GW_exit⟩
instance:Nx (GX call id (.seq b :: ks) R fr H) (GX call id ks R fr H):=⟨GX_seq⟩
instance:Nx (GX call id (.blk id :: ks) R fr H) (GN call ks R fr H):=⟨GX_blk⟩
instance:Nx (GX call id (.inv I :: ks) R fr H) (GX call id ks R fr H):=⟨GX_inv⟩
instance:Nx (GW call .ret ks R fr H) (R fr H):=⟨GW_ret⟩
instance:Nx (GN call (.inv I :: ks) R fr H) (I fr H):=⟨GN_inv⟩
instance:Nx (GN call [] R fr H) (R fr H):=⟨GN_nil⟩
instance {hid:List Nat} {K:Fr→GHeap→Prop}:Nx (Gp call hid [] K fr H) (K fr H):=⟨Gp_nil⟩
end
structure Gs (s:Option Bool) (x:Option Value) (A B C D:Prop):Prop where
 ok:Gd x A B C D∨(x=some undef∧match s with|some true=>B|some false=>A|none=>False)
theorem Gd.imp {x:Option Value} {A B C D A' B' C' D':Prop} (h:Gd x A B C D) (a:A→A') (b:B→B') (c:C→C') (d:D→D'):Gd x A' B' C' D':=by
 obtain ⟨t,h1,h2,h3⟩:=h.ok
 exact ⟨t,h1,fun e=>(h2 e).imp a c,fun e=>(h3 e).imp b d⟩
section
variable {s:Option Bool} {A B C D:Prop} {t:Bool}
theorem zx (h:A):Gs s (some (.bool true)) A B C D:=⟨.inl (Gd_true h)⟩
theorem zy (h:B):Gs s (some (.bool false)) A B C D:=⟨.inl (Gd_false h)⟩
theorem zz (h1:t=true→C) (h2:t=false→D):Gs s (some (.bool t)) A B C D:=⟨.inl (Gd_some h1 h2)⟩
theorem zv (h:B):Gs (some true) (some undef) A B C D:=⟨.inr ⟨rfl,h⟩⟩
theorem zw (h:A):Gs (some false) (some undef) A B C D:=⟨.inr ⟨rfl,h⟩⟩
end
structure G2 (x:Option Value) (K:Value→Prop):Prop where
 ok:∃ v,x=some v∧K v
theorem zg {v:Value} {K:Value→Prop} (h:K v):G2 (some v) K:=⟨v,rfl,h⟩
section
variable {call:GCall} {run:Fr→GHeap→GOp→Option (Value × GHeap)} {r:List GOper} {q:List (Bool × GOper)} {hid:List Nat} {ks:List Kt} {R:Fr→GHeap→Prop} {K:Fr→GHeap→Prop} {op:GOp} {d g:Nat} {fr:Fr} {H:GHeap} {a b:GCode}
instance:Ox (Gw run (⟨some d,none,op⟩ :: r) K fr H) (∀ K':Value→GHeap→Prop,(∀ v H',Gw run r K (fr.set d v) H'→K' v H')→G1 (run fr H op) K'):=⟨fun h=>Gw_s h⟩
instance:Ox (Gp call hid ((false,⟨some d,none,op⟩) :: q) K fr H) (∀ K':Value→GHeap→Prop,(∀ v H',Gp call hid q K (fr.set d v) H'→K' v H')→G1 (gdo call fr H op) K'):=⟨fun h=>Gp_s h⟩
instance:Ox (Gw run (⟨none,none,op⟩ :: r) K fr H) (∀ K':Value→GHeap→Prop,(∀ v H',Gw run r K fr H'→K' v H')→G1 (run fr H op) K'):=⟨fun h=>Gw_0 h⟩
instance:Ox (Gw run (⟨some d,some (g,true),op⟩ :: r) K fr H) (∀ A B C D:Prop,((∀ K':Value→GHeap→Prop,(∀ v H',Gw run r K (fr.set d v) H'→K' v H')→G1 (run fr H op) K')→A)→(Gw run r K (fr.set d undef) H→B)→
 ((∀ K':Value→GHeap→Prop,(∀ v H',Gw run r K ((fr.set g (.bool true)).set d v) H'→K' v H')→G1 (run (fr.set g (.bool true)) H op) K')→C)→(Gw run r K ((fr.set g (.bool false)).set d undef) H→D)→Gs (some true) (fr.get g) A B C D):=⟨fun h=>by
 rcases (h _ _ _ _ id id id id).ok with hd|⟨hx,hb⟩
 ·exact Gw_dt fun A B C D a b c d=>hd.imp a b c d
 ·exact Gw_u fun A a=>⟨hx,a hb⟩⟩
instance:Ox (Gw run (⟨some d,some (g,false),op⟩ :: r) K fr H) (∀ A B C D:Prop,(Gw run r K (fr.set d undef) H→A)→((∀ K':Value→GHeap→Prop,(∀ v H',Gw run r K (fr.set d v) H'→K' v H')→G1 (run fr H op) K')→B)→
 (Gw run r K ((fr.set g (.bool true)).set d undef) H→C)→((∀ K':Value→GHeap→Prop,(∀ v H',Gw run r K ((fr.set g (.bool false)).set d v) H'→K' v H')→G1 (run (fr.set g (.bool false)) H op) K')→D)→Gs (some false) (fr.get g) A B C D):=⟨fun h=>by
 rcases (h _ _ _ _ id id id id).ok with hd|⟨hx,hb⟩
 ·exact Gw_df fun A B C D a b c d=>hd.imp a b c d
 ·exact Gw_u fun A a=>⟨hx,a hb⟩⟩
instance:Ox (GW call (.cond (.t d) a b) ks R fr H) (∀ A B C D:Prop,(GW call a ks R fr H→A)→(GW call b ks R fr H→B)→(GW call a ks R (fr.set d (.bool true)) H→C)→(GW call b ks R (fr.set d (.bool false)) H→D)→Gs none (fr.get d) A B C D):=⟨fun h=>by
 rcases (h _ _ _ _ id id id id).ok with hd|⟨hx,hb⟩
 ·exact GW_cd fun A B C D a b c d=>hd.imp a b c d
 ·exact hb.elim⟩
instance {rets:List GRet} {Post:Value→GHeap→Prop}:Ox (GR rets Post fr H) (∀ K':Value→Prop,(∀ v,Post v H→K' v)→G2 ((gresults fr H rets).map gone) K'):=⟨fun h=>by
 obtain ⟨v,e,hv⟩:=(h (fun v=>Post v H) fun _ h=>h).ok
 cases hr:gresults fr H rets with
 |none=>rw [hr] at e;cases e
 |some l=>rw [hr] at e;cases e;exact ⟨l,hr,hv⟩⟩
end
theorem zd {p:Prop} (h:p:=by first|(simp only [yD2,beq_self_eq_true,Nat.reduceLT,Nat.reduceAdd];done)|((fail_if_success (apply Bool.eq_iff_iff.2));first|omega|(simp only [yD2,beq_self_eq_true,Nat.reduceLT,Nat.reduceAdd]<;>omega))|fail):p:=h
end Go.Gh
