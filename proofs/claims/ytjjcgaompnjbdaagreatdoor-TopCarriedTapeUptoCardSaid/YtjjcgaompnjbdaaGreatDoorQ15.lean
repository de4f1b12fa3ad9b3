/-
  Parts of the proof: walks of the ghost functions and the laws of what they compute. No condition.
-/
import Derived.Shelf.Strings.BuilderF
import Derived.Test.YtjjcgaompnjbdaaGreatDoorQ2
import Derived.Shelf.Bytes.SlIndexAt
import Derived.Shelf.Bytes.IndexByte
import Derived.Lib.SlBuf
import Derived.Lib.MakeNoZero
import Derived.Test.YtjjcgaompnjbdaaGreatDoorProg
import Derived.Shelf.Bits.Mul64
import Derived.Shelf.RegionOpenPlain
import Derived.WalkKit
import Derived.Lib.Walk
import Derived.Deep.LoopGhost
import Derived.Deep.Draws
import Derived.Laws.Externs
import Derived.BigCall
import Derived.BigGuard
import Derived.Deep.DeepCutAuto
import Derived.Deep.DeepFit
section
namespace Go.Proofs
set_option linter.unusedSimpArgs false
set_option linter.unusedVariables false
set_option maxHeartbeats 4000000
open Go.Shelf Go.RowKit
variable {P:Program} {ρ:Ren}
theorem liesAt_off {e:TypeId} (hc:P.cellsOf e=1) (count o n:Nat) (hn:o+n≤count):liesAt P P.depth e count o e n=true:=by
 have hd:P.depth=(2 * (P.types.size+Made.depth)+1)+1:=rfl
 rw [hd]
 simp only [liesAt,Bool.or_eq_true]
 left
 rw [hd]
 simp [rowAt,hc,sameLayout]
 try omega
theorem run_unsafeString_off {w:World} (pt it ty e:TypeId) (hp:P.underlying pt=some (.pointer e)) (hc:P.cellsOf e=1) (g o cells:Nat) (hsh:w.shape? g=some (e,cells)) (l:List UInt8) (h0:l≠[]) (hn:o+l.length≤cells) (h63:l.length≤9223372036854775807)
 (hcell:∀ j x,l[j]? =some x→w.cell? ((⟨g,o,none⟩:Addr).add j)=some (.int .u8 x.toNat)):
 (Builtin.unsafeString_ #[pt,it] ty #[.pointer (some ⟨g,o,none⟩),.int .i64 l.length]).run P w=.ok (.string ⟨l.toArray⟩) (w.freeze ⟨g,o,none⟩ l.length):=by
 have hl:l.length≠0:=by simpa using h0
 have hlb:=Lib.run_loadBytes (P:=P) w l ⟨g,o,none⟩ .empty hcell
 have hlies:=liesAt_off (P:=P) hc (cells / P.cellsOf e) o l.length (by rw [hc];simpa using hn)
 have h63':¬ (9223372036854775807:Int) < (l.length:Int):=by omega
 have hneg:¬ (l.length:Int) < 0:=by omega
 have hmax:IntKind.i64.max=9223372036854775807:=rfl
 have hdef:∀ n:Int,Builtin.unsafeString_ #[pt,it] ty #[.pointer (some ⟨g,o,none⟩),.int .i64 n]=(do
  let n ← asInt (.int .i64 n)
  if n < 0 then runtimePanic (.error "unsafe.String: len out of range")
  if n > IntKind.i64.max then unsupported (.unsafePointer "String: a length above the largest int")
  if n=0 then pure (.string .empty)
  else if ← variablesAt ⟨g,o,none⟩ (← elemOf pt) n.toNat then do
   let s ← loadBytes ⟨g,o,none⟩ .empty n.toNat
   freeze ⟨g,o,none⟩ n.toNat
   pure (.string s)
  else unsupported (.unsafePointer "String: not so many bytes at ptr")):=fun _=>rfl
 rw [hdef]
 simp [asInt,asIntOf,hmax,h63',hneg,hl,variablesAt,hsh,elemOf,run_underlying hp,hlies,hlb]
set_option maxHeartbeats 2000000 in
set_option maxRecDepth 100000 in
theorem string_exact (L:Lays.n169 P ρ) (X:Builder.Extra P ρ) (b g o cap:Nat) (l:List UInt8) (cur:Array Value) (fz:Nat × Nat) (w:World) (h0:l≠[]) (hcap:cap≠0)
 (c1':w.cell? ⟨b,1,none⟩=some (.slice (some ⟨g,o,none⟩) l.length cap)) (hg:w.heap[g]? =some (.cells cur (ρ.t 5) fz)) (hn:o+l.length≤cur.size) (h63:l.length≤9223372036854775807)
 (hcells:∀ j x,l[j]? =some x→w.cell? ⟨g,o+j,none⟩=some (.int .u8 x.toNat)):
 Calls P (ρ.f 169) #[.pointer (some ⟨b,0,none⟩)] w fun e w'=>e=.returned (.string ⟨l.toArray⟩)∧w'=w.drew.freeze ⟨g,o,none⟩ l.length:=by
 have hl0:l.length≠0:=by simpa using h0
 have c1:w.drew.cell? ⟨b,1,none⟩=some (.slice (some ⟨g,o,none⟩) l.length cap):=c1'
 have hSD:(Builtin.unsafeSliceData_ #[(ρ.t 37)] (ρ.t 127) #[.slice (some ⟨g,o,none⟩) l.length cap]).run P w.drew=.ok (.pointer (some ⟨g,o,none⟩)) w.drew:=
  Lib.run_unsafeSliceData_row _ _ _ _ _ _ hcap
 have hUS:(Builtin.unsafeString_ #[(ρ.t 127),(ρ.t 3)] (ρ.t 9) #[.pointer (some ⟨g,o,none⟩),.int .i64 l.length]).run P w.drew=.ok (.string ⟨l.toArray⟩) (w.drew.freeze ⟨g,o,none⟩ l.length):=by
  refine run_unsafeString_off (ρ.t 127) (ρ.t 3) (ρ.t 9) (ρ.t 5) L.t127 X.cellsByte g o cur.size (by have hg':w.drew.heap[g]? =some (.cells cur (ρ.t 5) fz):=hg;simp [World.shape?,hg']) l h0 hn h63 ?_
  intro j x hx
  have:=hcells j x hx
  unfold Addr.add
  by_cases hj:j=0
  ·subst hj;simpa using this
  ·simp [hj];exact this
 have mixed:=L.mixed
 have t72:=L.t72;have a72:=L.a72;have z72:=L.z72;have v72:=L.v72;have u72:=run_underlying L.t72
 have t70:=L.t70;have a70:=L.a70;have z70:=L.z70;have v70:=L.v70;have u70:=run_underlying L.t70
 have t37:=L.t37;have a37:=L.a37;have z37:=L.z37;have v37:=L.v37;have u37:=run_underlying L.t37
 have t127:=L.t127;have a127:=L.a127;have z127:=L.z127;have v127:=L.v127;have u127:=run_underlying L.t127
 have t3:=L.t3;have a3:=L.a3;have z3:=L.z3;have v3:=L.v3;have u3:=run_underlying L.t3
 have t9:=L.t9;have a9:=L.a9;have z9:=L.z9;have v9:=L.v9;have u9:=run_underlying L.t9
 have t5:=X.t5;have a5:=X.a5;have z5:=X.z5;have v5:=X.v5;have u5:=run_underlying X.t5
 go_enter L.f169,Body.n169_ntmps ρ
 go_wp2
 go_region_o
 all_goals (go_wp2;go_ret;exact ⟨rfl,rfl⟩)
set_option maxHeartbeats 2000000 in
set_option maxRecDepth 100000 in
theorem string_nil_exact (L:Lays.n169 P ρ) (X:Builder.Extra P ρ) (b:Nat) (w:World) (c1':w.cell? ⟨b,1,none⟩=some (.slice none 0 0)):
 Calls P (ρ.f 169) #[.pointer (some ⟨b,0,none⟩)] w fun e w'=>e=.returned (.string .empty)∧w'=w.drew:=by
 have c1:w.drew.cell? ⟨b,1,none⟩=some (.slice none 0 0):=c1'
 have hSD:(Builtin.unsafeSliceData_ #[(ρ.t 37)] (ρ.t 127) #[.slice none 0 0]).run P w.drew=.ok (.pointer none) w.drew:=Lib.run_unsafeSliceData_nil _ _ _ _ _
 have hUS:(Builtin.unsafeString_ #[(ρ.t 127),(ρ.t 3)] (ρ.t 9) #[.pointer none,.int .i64 0]).run P w.drew=.ok (.string .empty) w.drew:=Lib.run_unsafeString_none _ _ _ _ _
 have mixed:=L.mixed
 have t72:=L.t72;have a72:=L.a72;have z72:=L.z72;have v72:=L.v72;have u72:=run_underlying L.t72
 have t70:=L.t70;have a70:=L.a70;have z70:=L.z70;have v70:=L.v70;have u70:=run_underlying L.t70
 have t37:=L.t37;have a37:=L.a37;have z37:=L.z37;have v37:=L.v37;have u37:=run_underlying L.t37
 have t127:=L.t127;have a127:=L.a127;have z127:=L.z127;have v127:=L.v127;have u127:=run_underlying L.t127
 have t3:=L.t3;have a3:=L.a3;have z3:=L.z3;have v3:=L.v3;have u3:=run_underlying L.t3
 have t9:=L.t9;have a9:=L.a9;have z9:=L.z9;have v9:=L.v9;have u9:=run_underlying L.t9
 have t5:=X.t5;have a5:=X.a5;have z5:=X.z5;have v5:=X.v5;have u5:=run_underlying X.t5
 go_enter L.f169,Body.n169_ntmps ρ
 go_wp2
 go_region_o
 all_goals (go_wp2;go_ret;exact ⟨rfl,rfl⟩)
end Go.Proofs
end
section
namespace Go.Gh
set_option linter.unusedSimpArgs false
set_option linter.unusedVariables false
set_option maxHeartbeats 4000000
open Go.RowKit
variable {P:Program} {f:FuncId}
def iL (l:List UInt8):List Int:=l.map fun c=>(c.toNat:Int)
theorem bytesOf_l (l:List UInt8):Go.Lib.bytesOf (iL l)=l:=by simp [Go.Lib.bytesOf,iL,List.map_map,Function.comp_def]
theorem u8s_iL {l:List UInt8} {i:Nat} (h:i < l.length):(u8s l)[i]? =some (.int .u8 ((iL l).getD i 0)):=by
 simp [u8s,iL,List.getElem?_map,List.getElem?_eq_getElem h,List.getD_eq_getElem?_getD]
theorem ibx_ok (henter:∀ (asl:Array Value) (w:World),(callFunc f asl).run P w=.ok (.enter f asl) w)
 (hj:∀ bk o n c (xs:List Int) (cv:Int) (w:World),xs.length=n→(∀ i,i < n→w.cell? ⟨bk,o+i,none⟩=some (.int .u8 (xs.getD i 0)))→
   Calls P f #[.slice (some ⟨bk,o,none⟩) n c,.int .u8 cv] w fun e w'=>e=.returned (.int .i64 (Go.Lib.indexByte (Go.Lib.bytesOf xs) cv.toNat.toUInt8))∧w'=w)
 (h0:∀ cv w,Calls P f #[.slice none 0 0,.int .u8 cv] w fun e w'=>e=.returned (.int .i64 (-1))∧w'=w):ExtOk P f runIB:=by
 refine ⟨henter,fun args H v H' h=>?_⟩
 unfold runIB at h
 split at h
 ·rename_i c
  cases h
  refine ⟨fun hw=>Fwd.refl _,fun base ι w args' hw hR ha _=>?_⟩
  obtain ⟨a1,r,rfl,ha1,hr0⟩:=ha.cons_inv
  obtain ⟨a2,r,rfl,ha2,hr1⟩:=hr0.cons_inv
  obtain rfl:=hr1.nil_inv
  obtain rfl:a2=.int .u8 c:=ha2.lit_inv rfl
  obtain rfl:a1=.slice none 0 0:=ha1.lit_inv rfl
  refine (h0 c w).mono fun e w' hh=>?_
  obtain ⟨rfl,rfl⟩:=hh
  have hb:=Below.refl w'.heap.size w'
  exact ⟨_,rfl,ι,VR.litVal rfl,hR.le hb,hb.mono hR.low,Inj.le.refl _,fun j l' e=>.inl e⟩
 ·rename_i i o n gc c
  split at h
  ·rename_i cs hc
   split at h
   ·rename_i l hl0
    split at h
    ·rename_i hn
     cases h
     have hx:=rdB_spec hl0
     refine ⟨fun hw=>Fwd.refl _,fun base ι w args' hw hR ha _=>?_⟩
     obtain ⟨a1,r,rfl,ha1,hr0⟩:=ha.cons_inv
     obtain ⟨a2,r,rfl,ha2,hr1⟩:=hr0.cons_inv
     obtain rfl:=hr1.nil_inv
     obtain rfl:a2=.int .u8 c:=ha2.lit_inv rfl
     cases ha1 with
     |lit hl=>simp [litFlat] at hl
     |sl hl hnc hgc hbd=>
      rename_i c' lg
      unfold GHeap.cs at hc
      split at hc
      ·rename_i cs' u own hob
       cases hc
       obtain ⟨_,hcells,_⟩:=hR.obj i lg _ hl hob
       have hcell:∀ j,j < n+1→w.cell? ⟨lg.block,lg.off+o+j,none⟩=some (.int .u8 ((iL l).getD j 0)):=fun j hj'=>by
        have e1:=u8s_iL (l:=l) (i:=j) (by omega)
        rw [← hx,List.getElem?_take_of_lt hj',List.getElem?_drop] at e1
        obtain ⟨_,v',k1,k2⟩:=hcells (o+j) _ e1
        rw [k2.lit_inv rfl] at k1
        rw [Nat.add_assoc];exact k1
       have hrun:=hj lg.block (lg.off+o) (n+1) c' (iL l) c w (by simp [iL,hn]) hcell
       rw [bytesOf_l] at hrun
       refine hrun.mono fun e w' hh=>?_
       obtain ⟨rfl,rfl⟩:=hh
       have hb:=Below.refl w'.heap.size w'
       exact ⟨_,rfl,ι,VR.litVal rfl,hR.le hb,hb.mono hR.low,Inj.le.refl _,fun j l' e=>.inl e⟩
      ·cases hc
    ·cases h
   ·cases h
  ·cases h
 ·cases h
theorem ixx_ok (henter:∀ (asl:Array Value) (w:World),(callFunc f asl).run P w=.ok (.enter f asl) w)
 (hj:∀ (a:Addr) (n c b2 o2 d:Nat) (xs:List Int) (cv:Int) (w:World),xs.length=n→(∀ i,i < n→w.cell? (a.add i)=some (.int .u8 (xs.getD i 0)))→w.cell? ⟨b2,o2,none⟩=some (.int .u8 cv)→
   Calls P f #[.slice (some a) n c,.slice (some ⟨b2,o2,none⟩) 1 d] w fun e w'=>e=.returned (.int .i64 (Go.Lib.indexByte (Go.Lib.bytesOf xs) cv.toNat.toUInt8))∧w'=w):ExtOk P f runIx:=by
 refine ⟨henter,fun args H v H' h=>?_⟩
 unfold runIx at h
 split at h
 ·rename_i i o n gc j p gd
  split at h
  ·rename_i cs ds hc hd
   split at h
   ·rename_i l c hl0 hp
    split at h
    ·rename_i hn
     cases h
     have hx:=rdB_spec hl0
     refine ⟨fun hw=>Fwd.refl _,fun base ι w args' hw hR ha _=>?_⟩
     obtain ⟨a1,r,rfl,ha1,hr0⟩:=ha.cons_inv
     obtain ⟨a2,r,rfl,ha2,hr1⟩:=hr0.cons_inv
     obtain rfl:=hr1.nil_inv
     cases ha1 with
     |lit hl=>simp [litFlat] at hl
     |sl hl hnc hgc hbd=>
      rename_i c' lg
      cases ha2 with
      |lit hl2=>simp [litFlat] at hl2
      |sl hl2 hnc2 hgc2 hbd2=>
       rename_i c2 lg2
       unfold GHeap.cs at hc hd
       split at hc
       ·rename_i cs' u own hob
        cases hc
        split at hd
        ·rename_i ds' u2 own2 hob2
         cases hd
         obtain ⟨_,hcells,_⟩:=hR.obj i lg _ hl hob
         obtain ⟨_,hcells2,_⟩:=hR.obj j lg2 _ hl2 hob2
         have hcell:∀ k,k < n+1→w.cell? ((⟨lg.block,lg.off+o,none⟩:Addr).add k)=some (.int .u8 ((iL l).getD k 0)):=fun k hk=>by
          have e1:=u8s_iL (l:=l) (i:=k) (by omega)
          rw [← hx,List.getElem?_take_of_lt hk,List.getElem?_drop] at e1
          obtain ⟨_,v',k1,k2⟩:=hcells (o+k) _ e1
          rw [k2.lit_inv rfl,← Nat.add_assoc] at k1
          unfold Addr.add
          split
          ·rename_i h0;subst h0;exact k1
          ·exact k1
         have hcell2:w.cell? ⟨lg2.block,lg2.off+p,none⟩=some (.int .u8 c):=by
          obtain ⟨_,v',k1,k2⟩:=hcells2 p _ hp
          rw [k2.lit_inv rfl] at k1
          exact k1
         have hrun:=hj ⟨lg.block,lg.off+o,none⟩ (n+1) c' lg2.block (lg2.off+p) c2 (iL l) c w (by simp [iL,hn]) hcell hcell2
         rw [bytesOf_l] at hrun
         refine hrun.mono fun e w' hh=>?_
         obtain ⟨rfl,rfl⟩:=hh
         have hb:=Below.refl w'.heap.size w'
         exact ⟨_,rfl,ι,VR.litVal rfl,hR.le hb,hb.mono hR.low,Inj.le.refl _,fun j l' e=>.inl e⟩
        ·cases hd
       ·cases hc
    ·cases h
   ·cases h
  ·cases h
 ·cases h
end Go.Gh
end
section
namespace Go.Gh
set_option linter.unusedSimpArgs false
set_option linter.unusedVariables false
set_option maxHeartbeats 4000000
open Go.RowKit
variable {P:Program} {f:FuncId}
structure RpB (w wr:World) (t:TypeId) (n bp:Nat) (x:Int):Prop where
 below:Below w.heap.size w wr
 size:wr.heap.size=w.heap.size+1
 row:∃ C,wr.heap[w.heap.size]? =some (.cells C t (0,0))∧n≤C.size
 cells:∀ j,j < bp→wr.cell? ⟨w.heap.size,j,none⟩=some (.int .u8 x)
 fit:bp≤n
theorem RpB.start {w:World} {cs:Array Value} {t:TypeId} {n q:Nat} {x:Int} (h:n≤cs.size):RpB w ((w.alloc (.cells cs t)).drewN q) t n 0 x where
 below:=⟨rfl,rfl,rfl,by simp,fun k hk=>Below.heap_alloc w _ k hk⟩
 size:=by simp
 row:=⟨cs,by show (w.heap.push _)[w.heap.size]? =_;simp,h⟩
 cells:=fun j hj=>by omega
 fit:=Nat.zero_le _
theorem RpB.copy {w wr:World} {t:TypeId} {n bp:Nat} {x:Int} (hb:RpB w wr t n bp x) (hlt:bp < n) {ty tr e:TypeId} (hu:P.underlying ty=some (.slice e)) (hz:(P.info? e).map (·.size)=some 1)
 (a:Addr) (s c:Nat) (hsrc:∀ j,j < min s (n - bp)→wr.cell? (a.add j)=some (.int .u8 x)):
 ∃ wr',(Builtin.copy_ #[ty,ty] tr #[Go.Lib.tailV w.heap.size n bp,.slice (some a) s c]).run P wr=.ok (.int .i64 ((min s (n - bp):Nat):Int)) wr'∧RpB w wr' t n (bp+min s (n - bp)) x:=by
 obtain ⟨C,hC,hn⟩:=hb.row
 have hle:min s (n - bp)≤n - bp:=Nat.min_le_right _ _
 generalize hm:min s (n - bp)=m at hsrc hle ⊢
 have hne:¬ n=bp:=by omega
 have hc:∀ j,j < m→(wr.cell? ⟨w.heap.size,bp+j,none⟩).isSome=true:=fun j hj=>by
  have:bp+j < C.size:=by omega
  simp [World.cell?,hC,this]
 have hf:∀ j,j < m→wr.frozen? ⟨w.heap.size,bp+j,none⟩=false:=fun j hj=>frozen_no hC (.inl rfl) (by omega)
 have hr:=run_copy_cells (P:=P) wr ty ty tr e w.heap.size bp (n - bp) (n - bp) a s c (List.replicate m (.int .u8 x)) hu hz (by rw [List.length_replicate];exact hm.symm)
  (fun j v hj=>by
    rw [List.getElem?_replicate] at hj
    split at hj
    ·cases hj;exact hsrc j (by assumption)
    ·cases hj)
  (fun j hj=>hc j (by simpa using hj)) (fun j hj=>hf j (by simpa using hj)) (fun v hv=>by rw [(List.mem_replicate.1 hv).2];rfl)
 rw [List.length_replicate] at hr
 refine ⟨_,by unfold Go.Lib.tailV;rw [if_neg hne];exact hr,?_⟩
 obtain ⟨g1,g2,g3,g4,g5,g6⟩:=setCells_heap w.heap.size (List.replicate m (.int .u8 x)) bp wr C t (0,0) hC
 have hb':=hb.below
 refine ⟨⟨g4.trans hb'.os,g5.trans hb'.tape,g6.trans hb'.output,by rw [g2];exact hb'.size,fun k hk=>(g3 k (by omega)).trans (hb'.block k hk)⟩,g2.trans hb.size,⟨_,g1,by rw [setA_size];exact hn⟩,fun j hj=>?_,by omega⟩
 by_cases h1:j < bp
 ·rw [World.cell?_setCells_out w.heap.size (List.replicate m (.int .u8 x)) bp wr ⟨w.heap.size,j,none⟩ (fun _ _=>.inl h1)]
  exact hb.cells j h1
 ·obtain ⟨d,rfl⟩:∃ d,j=bp+d:=⟨j - bp,by omega⟩
  have:=World.cell?_setCells_in w.heap.size (List.replicate m (.int .u8 x)) bp wr (fun i hi=>hc i (by simpa using hi)) d (by simp;omega)
  simpa using this
theorem RpB.src {w wr:World} {t:TypeId} {n bp:Nat} {x:Int} (hb:RpB w wr t n bp x) {m:Nat} (hm:m≤bp):∀ j,j < m→wr.cell? ((⟨w.heap.size,0,none⟩:Addr).add j)=some (.int .u8 x):=fun j hj=>by
 unfold Addr.add
 split
 ·rename_i h;subst h;exact hb.cells 0 (by omega)
 ·simpa using hb.cells j (by omega)
theorem repx_ok (henter:∀ (asl:Array Value) (w:World),(callFunc f asl).run P w=.ok (.enter f asl) w)
 (h:∀ b o c (n:Nat) (x:Int) (w:World),n≤8192→w.cell? ⟨b,o,none⟩=some (.int .u8 x)→
   Calls P f #[.slice (some ⟨b,o,none⟩) 1 c,.int .i64 n] w fun e w'=>e=.returned (.slice (some ⟨w.heap.size,0,none⟩) n n)∧RpB w w' P.rt.byte n n x):ExtOk P f runRep:=by
 refine ⟨henter,fun args H v H' hr=>?_⟩
 unfold runRep at hr
 split at hr
 ·rename_i i o gc n
  split at hr
  ·rename_i cs hc
   split at hr
   ·rename_i x hx
    split at hr
    ·rename_i hn
     cases hr
     obtain ⟨m,rfl⟩:∃ m:Nat,n=(m:Int):=⟨n.toNat,by omega⟩
     simp only [Int.toNat_natCast]
     refine ⟨fun hw=>Fwd.add hw _,fun base ι w args' hw hR ha hfree=>?_⟩
     obtain ⟨a1,r,rfl,ha1,hr0⟩:=ha.cons_inv
     obtain ⟨a2,r,rfl,ha2,hr1⟩:=hr0.cons_inv
     obtain rfl:=hr1.nil_inv
     obtain rfl:a2=.int .i64 m:=ha2.lit_inv rfl
     cases ha1 with
     |lit hl=>simp [litFlat] at hl
     |sl hl hnc hgc hbd=>
      rename_i c' lg
      unfold GHeap.cs at hc
      split at hc
      ·rename_i cs' u own hob
       cases hc
       obtain ⟨_,hcells,_⟩:=hR.obj i lg _ hl hob
       have hcell:w.cell? ⟨lg.block,lg.off+o,none⟩=some (.int .u8 x):=by
        obtain ⟨_,v',k1,k2⟩:=hcells o _ hx
        rw [k2.lit_inv rfl] at k1
        exact k1
       have hfr:ι H.len=none:=hfree H.len (Nat.le_refl _) (by rw [len_add];omega)
       refine (h lg.block (lg.off+o) c' m x w (by omega) hcell).mono fun e w' hh=>?_
       obtain ⟨rfl,hb⟩:=hh
       obtain ⟨C,hC,hs⟩:=hb.row
       have hle:Le w w':=hb.below
       refine ⟨_,rfl,ι.upd H.len ⟨w.heap.size,0,1,C.size⟩,?_,hR.fresh hfr hle (Nat.le_refl _) (by rw [hb.size];exact Nat.lt_succ_self _) ?_,hle.mono hR.low,Inj.le_upd _ hfr,fun j l e=>?_⟩
       ·have e2:=VR.sl (ι:=ι.upd H.len ⟨w.heap.size,0,1,C.size⟩) (i:=H.len) (o:=0) (n:=m) (gc:=m+1) (c:=m) (Inj.upd_same ι H.len _) (Nat.le_refl _) (.inr rfl) (.inr (by
         show 0+0+m * 1≤C.size
         omega))
        exact e2
       ·refine ⟨rfl,fun j v hv=>?_,fun _ _=>⟨hR.low,by simp;omega,C,P.rt.byte,(0,0),hC,rfl,.inl rfl,fun _=>rfl,fun h=>absurd h (by decide)⟩⟩
        rw [List.getElem?_replicate] at hv
        split at hv
        ·cases hv
         refine ⟨rfl,_,?_,VR.litVal rfl⟩
         show w'.cell? ⟨w.heap.size,0+j,none⟩=_
         rw [Nat.zero_add]
         exact hb.cells j (by assumption)
        ·cases hv
       ·by_cases hi:j=H.len
        ·subst hi
         rw [Inj.upd_same] at e
         cases e
         exact .inr ⟨Nat.le_refl _,by rw [len_add];omega,hR.low⟩
        ·rw [Inj.upd_ne _ _ hi] at e;exact .inl e
      ·cases hc
    ·cases hr
   ·cases hr
  ·cases hr
 ·cases hr
end Go.Gh
end
section
namespace Go.Proofs
set_option linter.unusedSimpArgs false
set_option linter.unusedVariables false
set_option maxHeartbeats 4000000
open Go.Shelf Go.RowKit Go.Lib Go.Gh
def LMu_ren:Go.Shelf.Ren:=⟨fun|212=>178|263=>200|264=>201|n=>n,fun|46=>145|51=>306|53=>303|146=>307|148=>309|n=>n,fun n=>n⟩
theorem LMu:Lays.n212 Tryz.prog LMu_ren where
 mixed:=by kernel_rfl
 f212:=Tryz.func178.trans (congrArg some (by kernel_rfl))
 f263:=Tryz.func200.trans (congrArg some (by kernel_rfl))
 f264:=Tryz.func201.trans (congrArg some (by kernel_rfl))
 t46:=Tryz.underlying145
 a46:=Tryz.isAgg145
 z46:=Tryz.sizeOf145
 v46:=Tryz.zeroValue145
 t51:=Tryz.underlying306
 a51:=Tryz.isAgg306
 z51:=Tryz.sizeOf306
 v51:=Tryz.zeroValue306
 t53:=Tryz.underlying303
 a53:=Tryz.isAgg303
 z53:=Tryz.sizeOf303
 v53:=Tryz.zeroValue303
 t146:=Tryz.underlying307
 a146:=Tryz.isAgg307
 z146:=Tryz.sizeOf307
 v146:=Tryz.zeroValue307
 t148:=Tryz.underlying309
 a148:=Tryz.isAgg309
 z148:=Tryz.sizeOf309
 v148:=Tryz.zeroValue309
theorem step_copy_run {P:Program} {ops:Array Oper} {o:Oper} {a:Act} {w:World} {K:Act→World→Prop} {Q:Exit→Act→World→Prop} {E:Prop} (hg:o.guard=none) (d s:Operand) (t t':TypeId)
 (ho:o.op=.call { callee:=.builtin .copy,args:=#[d,s],argTypes:=#[t,t'] }) (v u:Value) (hd:a.eval d=v) (hs:a.eval s=u) {v':Value} {w':World}
 (hr:(Builtin.copy_ #[t,t'] o.type #[v,u]).run P w=.ok v' w') (h:K (a.put o.dst v') w'):if Region.wanted o (yielded ops a.tmps)=true then Oper.wp P o a w K Q else E:=by
 have hw:Region.wanted o (yielded ops a.tmps)=true:=by simp [Region.wanted,hg]
 rw [if_pos hw]
 exact Lib.wp_copy_run w d s t t' ho v u hd hs hr h
set_option maxHeartbeats 4000000 in
set_option maxRecDepth 1000000 in
theorem rep_walk0 (b o c:Nat) (w:World):
 Calls Tryz.prog 141 #[.slice (some ⟨b,o,none⟩) 1 c,.int .i64 0] w fun e w'=>e=.returned (.slice (some ⟨w.heap.size,0,none⟩) 0 0)∧w'=w.alloc (.cells #[] 5):=by
 go_enter Tryz.func141,Tryz.ntmps141
 go_wp2
 go_ret
 exact ⟨rfl,rfl⟩
set_option maxHeartbeats 2000000 in
set_option maxRecDepth 1000000 in
theorem rep_walkS (b o c:Nat) (n:Nat) (x:Int) (w:World) (hn:n≤8192) (h0:0 < n) (hx:w.cell? ⟨b,o,none⟩=some (.int .u8 x)):
 Calls Tryz.prog 141 #[.slice (some ⟨b,o,none⟩) 1 c,.int .i64 n] w fun e w'=>e=.returned (.slice (some ⟨w.heap.size,0,none⟩) n n)∧RpB w w' 5 n n x:=by
 have hMul:=Any.bits_Mul LMu 1 n (by omega) (by omega) w
 rw [Nat.one_mul,Nat.div_eq_of_lt (by omega:n < 18446744073709551616),Nat.mod_eq_of_lt (by omega:n < 18446744073709551616)] at hMul
 have mixed:Tryz.prog.follows .mixedOrders=true:=by kernel_rfl
 have e178:∀ args w,(callFunc 178 args).run Tryz.prog w=.ok (.enter 178 args) w:=enters_of Tryz.func178 (by kernel_rfl) rfl
 obtain ⟨cs,hrunM,hle,_⟩:=Lib.run_makeNoZero (P:=Tryz.prog) w #[3] 51 5 Tryz.underlying51 n (by omega)
 have hcall:(callFunc 179 #[.int .i64 (n:Int)]).run Tryz.prog w=.ok (.value (.slice (some ⟨w.heap.size,0,none⟩) n cs.size)) ((w.alloc (.cells cs 5)).drewN 2):=by
  rw [run_callFunc_extern Tryz.func179 (by kernel_rfl) (by kernel_rfl) (by kernel_rfl) (e:=Extern.BytealgMakeNoZero.makeNoZero #[3] #[51]) (by kernel_rfl),hrunM]
  rfl
 clear hrunM
 have hs5:(Tryz.prog.info? 5).map (·.size)=some 1:=by kernel_rfl
 have z5:=Tryz.sizeOf5
 have B0:RpB w ((w.alloc (.cells cs 5)).drewN 2) 5 n 0 x:=RpB.start hle
 have f0:((n:Int) == 0)=false:=beq_eq_false_iff_ne.2 (by omega)
 obtain ⟨w1,hr1,B1⟩:=B0.copy (P:=Tryz.prog) h0 (tr:=3) Tryz.underlying51 hs5 ⟨b,o,none⟩ 1 c (fun j hj=>by
  have:j=0:=by omega
  subst this
  exact Lib.Below.cellOf B0.below (by simpa [Addr.add] using hx) (Nat.le_refl _))
 rw [show min 1 (n - 0)=1 by omega,Lib.tailV_zero] at hr1
 rw [show 0+min 1 (n - 0)=1 by omega] at B1
 go_enter Tryz.func141,Tryz.ntmps141
 go_wp2_with (first|(go_at_fn 178;go_fit hMul;rintro e w' ⟨rfl,hw⟩;rw [hw])|(at_builtin;refine Lib.wpList_copy_run _ rfl _ _ 51 51 rfl _ _ rfl rfl hr1 ?_))
 have HB1:Aside (RpB w w1 5 n 1 x):=B1
 clear B1 B0 hr1 hcall hMul
 go_loopg [10] n (fun g s10 wr=>∃ bp:Nat,1≤bp∧bp≤n∧n - bp≤g∧s10=.int .i64 bp∧Aside (RpB w wr 5 n bp x))
 case atStart=>exact ⟨1,Nat.le_refl _,h0,by omega,rfl,HB1⟩
 case round=>
  obtain ⟨bp,hb1,hbn,hg,rfl,HB⟩:=hrel
  by_cases hlt:bp < n
  ·have hltz:(bp:Int) < (n:Int):=by omega
   have hmin:∀ ts t W,(Builtin.min_ ts t #[.int .i64 (bp:Int),.int .i64 (n:Int)]).run Tryz.prog W=.ok (.int .i64 (bp:Int)) W:=fun ts t W=>by
    rw [run_min_int2,if_neg (by omega)]
   have hsl1:∀ W,(Instr.slice 51 (.slice (some ⟨w.heap.size,0,none⟩) n n) (some (.int .i64 (bp:Int))) none none).run Tryz.prog W=.ok (Lib.tailV w.heap.size n bp) W:=fun W=>Lib.run_slice_tailV W 51 5 Tryz.underlying51 z5 _ n bp (by omega)
   have hsl2:∀ W,(Instr.slice 51 (.slice (some ⟨w.heap.size,0,none⟩) n n) none (some (.int .i64 (bp:Int))) none).run Tryz.prog W=.ok (.slice (some ⟨w.heap.size,0,none⟩) bp n) W:=fun W=>by
    rw [run_slice_h W 51 _ _ _ (by simp [Program.elem,Tryz.underlying51]) .i64 _ (by omega) (by omega)]
    have he:Tryz.prog.elem 51=5:=by simp [Program.elem,Tryz.underlying51]
    rw [he,z5]
    have:¬ n=0:=by omega
    simp [Result.andThen,sliced,Addr.add,this]
   have HD:RpB w wr.drew 5 n bp x:=⟨HB.out.below.drew,HB.out.size,HB.out.row,HB.out.cells,hbn⟩
   obtain ⟨w2,hr2,B2⟩:=HD.copy (P:=Tryz.prog) hlt (tr:=3) Tryz.underlying51 hs5 ⟨w.heap.size,0,none⟩ bp n (HD.src (Nat.min_le_left _ _))
   have HB2:Aside (RpB w w2 5 n (bp+min bp (n - bp)) x):=B2
   have hm1:1≤min bp (n - bp):=by omega
   have hm2:min bp (n - bp)≤n - bp:=Nat.min_le_right _ _
   generalize min bp (n - bp)=m at hr2 HB2 hm1 hm2
   clear B2 HD
   have hwr:IntKind.i64.wrap ((bp:Int)+(m:Int))=((bp+m:Nat):Int):=by rw [IntKind.wrap_i64];omega
   go_wp2
   go_region_law_o (refine step_copy_run rfl (.tmp 70) (.tmp 73) 51 51 rfl _ _ (by simp [Act.eval,Act.put]) (by simp [Act.eval,Act.put]) hr2 ?_)
   go_wp2
   go_roundg (n - (bp+m))
   case measure=>omega
   case rel=>exact ⟨bp+m,by omega,by omega,Nat.le_refl _,by first|rfl|rw [hwr],HB2⟩
  ·obtain rfl:bp=n:=by omega
   have hltz:¬ ((bp:Int) < (bp:Int)):=by omega
   go_wp2
   go_ret
   exact ⟨rfl,HB.out⟩
theorem rep_walk (b o c:Nat) (n:Nat) (x:Int) (w:World) (hn:n≤8192) (hx:w.cell? ⟨b,o,none⟩=some (.int .u8 x)):
 Calls Tryz.prog 141 #[.slice (some ⟨b,o,none⟩) 1 c,.int .i64 n] w fun e w'=>e=.returned (.slice (some ⟨w.heap.size,0,none⟩) n n)∧RpB w w' Tryz.prog.rt.byte n n x:=by
 rw [show Tryz.prog.rt.byte=5 by kernel_rfl]
 rcases Nat.eq_zero_or_pos n with rfl|h0
 ·refine (rep_walk0 b o c w).mono fun e w' hh=>?_
  obtain ⟨rfl,rfl⟩:=hh
  exact ⟨rfl,RpB.start (cs:=#[]) (q:=0) (Nat.zero_le _)⟩
 ·exact rep_walkS b o c n x w hn h0 hx
end Go.Proofs
end
