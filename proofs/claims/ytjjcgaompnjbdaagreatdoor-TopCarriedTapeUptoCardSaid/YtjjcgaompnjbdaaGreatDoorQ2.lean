/-
  Parts of the proof: walks of the ghost functions and the laws of what they compute. No condition.
-/
import Derived.Test.YtjjcgaompnjbdaaGreatDoorK5
import Derived.Lib.UnsafeStr
import Derived.Lib.Bytealg
import Derived.Shelf.Strings.OnBuilder
section
namespace Go.Gh
set_option linter.unusedSimpArgs false
set_option linter.unusedVariables false
set_option maxHeartbeats 4000000
open Go.RowKit
variable {P:Program} {f:FuncId}
def self (i:Nat):Value:=.pointer (some ⟨i,0,none⟩)
def runCC:List Value→GHeap→Option (Value × GHeap)
 |[.pointer (some ⟨i,0,none⟩)],H=>match H.mine i with
  |some ([.pointer none,v],258)=>some (.tuple #[],H.put i (.cells [self i,v] 258 true))
  |some ([.pointer (some ⟨j,0,none⟩),v],258)=>if j=i then some (.tuple #[],H.put i (.cells [self i,v] 258 true)) else none
  |_=>none
 |_,_=>none
theorem runCC_some {args:List Value} {H H':GHeap} {v:Value} (h:runCC args H=some (v,H')):
 ∃ i x,args=[self i]∧v=.tuple #[]∧H'=H.put i (.cells [self i,x] 258 true)∧(H.mine i=some ([.pointer none,x],258)∨H.mine i=some ([self i,x],258)):=by
 unfold runCC at h
 split at h
 ·rename_i i
  split at h
  ·rename_i x hm
   cases h
   exact ⟨i,x,rfl,rfl,rfl,.inl hm⟩
  ·rename_i j x hm
   split at h
   ·rename_i hj
    cases h
    subst hj
    exact ⟨j,x,rfl,rfl,rfl,.inr hm⟩
   ·cases h
  ·cases h
 ·cases h
theorem cc_ok (henter:∀ (asl:Array Value) (w:World),(callFunc f asl).run P w=.ok (.enter f asl) w)
 (hfresh:∀ b (w:World),w.cell? ⟨b,0,none⟩=some (.pointer none)→w.shape? b=some (gBT P,2)→w.frozen? ⟨b,0,none⟩=false→
   Calls P f #[.pointer (some ⟨b,0,none⟩)] w fun e w'=>e=.returned (.tuple #[])∧w'=w.setCell ⟨b,0,none⟩ (.pointer (some ⟨b,0,none⟩)))
 (hused:∀ b (w:World),w.cell? ⟨b,0,none⟩=some (.pointer (some ⟨b,0,none⟩))→
   Calls P f #[.pointer (some ⟨b,0,none⟩)] w fun e w'=>e=.returned (.tuple #[])∧w'=w):ExtOk P f runCC:=by
 refine ⟨henter,fun args H v H' h=>?_⟩
 obtain ⟨i,x,rfl,rfl,rfl,hm⟩:=runCC_some h
 have hm':∃ p,H.mine i=some ([p,x],258)∧flatV p=true∧(p=.pointer none∨p=self i):=hm.elim (fun h=>⟨_,h,rfl,.inl rfl⟩) fun h=>⟨_,h,rfl,.inr rfl⟩
 obtain ⟨p,hmp,hfp,hp⟩:=hm'
 obtain ⟨hlim,hobj⟩:=mine_some hmp
 refine ⟨fun hw=>Fwd.put hw hlim hobj rfl,fun base ι w args' hw hR ha _=>?_⟩
 obtain ⟨a',r,rfl,ha1,hr0⟩:=ha.cons_inv
 obtain rfl:=hr0.nil_inv
 obtain ⟨l,hi,rfl⟩:=ha1.ptr_inv
 obtain ⟨hu1,hcells,hown⟩:=hR.obj i l _ hi hobj
 obtain ⟨hb1,hsz,C,t,fz,hheap,hC,hfr,hty⟩:=hown rfl hlim
 obtain ⟨ht,hoff,hs2⟩:=hty.2 rfl
 have hself:VR ι (self i) (.pointer (some ⟨l.block,0,none⟩)):=by
  have:=VR.ptr (o:=0) hi
  rwa [hoff] at this
 rw [hoff] at hcells hsz ⊢
 obtain ⟨w1,k1,k2,k3,k4,k5⟩:=store_ok (P:=P) hR hi hmp (o:=0) (vs:=[self i]) (vs':=[.pointer (some ⟨l.block,0,none⟩)]) ⟨rfl,fun j v hv=>by
  cases j with
  |zero=>cases hv;exact ⟨_,rfl,hself⟩
  |succ j=>simp at hv⟩ (by simp [self,flatV]) (by simp)
 obtain ⟨q1,p',q2,q3⟩:=hcells 0 p rfl
 have hC2:C.size=2:=by omega
 rcases hp with rfl|rfl
 ·have hp':p'=.pointer none:=q3.lit_inv rfl
  subst hp'
  have hsh:w.shape? l.block=some (gBT P,2):=by simp [World.shape?,hheap,hC2,ht]
  have hfz:=frozen_no hheap hfr (o:=0) (by omega)
  refine (hfresh l.block w q2 hsh hfz).mono fun e w' hh=>?_
  obtain ⟨rfl,rfl⟩:=hh
  rw [hoff] at k1
  have hrun:=(raw_store (P:=P) (o:=0) (vs:=[.pointer (some ⟨l.block,0,none⟩)]) hheap hfr (by simp;omega) (by intro v hv;rw [List.mem_singleton.1 hv];rfl)).1
  have k1':(storeCells ⟨l.block,0,none⟩ [.pointer (some ⟨l.block,0,none⟩)]).run P w=.ok () w1:=k1
  rw [hrun] at k1'
  have hw1:w1=w.setCell ⟨l.block,0,none⟩ (.pointer (some ⟨l.block,0,none⟩)):=by injection k1' with _ h2;exact h2.symm
  rw [hw1] at k2 k3
  exact ⟨_,rfl,ι,VR.litVal (by simp [litVal]),k2,k3,Inj.le.refl _,fun j l' e=>.inl e⟩
 ·have hp':p'=.pointer (some ⟨l.block,0,none⟩):=by
   obtain ⟨l2,e1,e2⟩:=q3.ptr_inv
   rw [hi] at e1
   cases e1
   rw [e2,hoff]
  subst hp'
  refine (hused l.block w q2).mono fun e w' hh=>?_
  obtain ⟨rfl,rfl⟩:=hh
  refine ⟨_,rfl,ι,VR.litVal (by simp [litVal]),?_,Below.refl _ _,Inj.le.refl _,fun j l' e=>.inl e⟩
  rw [put_self hobj]
  exact hR
def rdB:List Value→Option (List UInt8)
 |[]=>some []
 |.int .u8 n :: r=>if 0≤n∧n < 256 then (rdB r).map (UInt8.ofNat n.toNat :: ·) else none
 |_ :: _=>none
theorem rdB_spec:∀ {cs:List Value} {l:List UInt8},rdB cs=some l→cs=u8s l
 |[],l,h=>by cases h;rfl
 |v :: r,l,h=>by
  unfold rdB at h
  split at h
  ·rename_i e;cases e
  ·rename_i n r' e
   cases e
   split at h
   ·rename_i hn
    simp only [Option.map_eq_some_iff] at h
    obtain ⟨l',h1,rfl⟩:=h
    have:=rdB_spec h1
    have h2:((UInt8.ofNat n.toNat).toNat:Int)=n:=by rw [UInt8.toNat_ofNat'];omega
    simp only [u8s,List.map_cons,h2,this]
   ·cases h
  ·cases h
theorem rdB_u8s:∀ l:List UInt8,rdB (u8s l)=some l
 |[]=>rfl
 |x :: l=>by
  have h:=rdB_u8s l
  have hx:=x.toNat_lt
  simp only [u8s,List.map_cons,rdB] at h ⊢
  rw [if_pos (by omega),h]
  simp
def runStr:List Value→GHeap→Option (Value × GHeap)
 |[.pointer (some ⟨i,0,none⟩)],H=>match H.mine i with
  |some ([_,.slice none 0 0],258)=>some (.string .empty,H)
  |some ([_,.slice (some ⟨g,0,none⟩) (n+1) _],258)=>match H.mine g with
   |some (cs,257)=>if n+1≤cs.length∧n+1≤140737488355328 then (rdB (cs.take (n+1))).map fun l=>(.string ⟨l.toArray⟩,H.put g (.cells cs 257 false)) else none
   |_=>none
  |_=>none
 |_,_=>none
theorem runStr_some {args:List Value} {H H':GHeap} {v:Value} (h:runStr args H=some (v,H')):
 ∃ i p s,args=[self i]∧H.mine i=some ([p,s],258)∧((s=.slice none 0 0∧v=.string .empty∧H'=H)∨
  ∃ g n gc cs l,s=.slice (some ⟨g,0,none⟩) (n+1) gc∧H.mine g=some (cs,257)∧(n+1≤cs.length∧n+1≤140737488355328)∧cs.take (n+1)=u8s l∧v=.string ⟨l.toArray⟩∧H'=H.put g (.cells cs 257 false)):=by
 unfold runStr at h
 split at h
 ·rename_i i
  split at h
  ·rename_i p hm
   cases h
   exact ⟨i,p,_,rfl,hm,.inl ⟨rfl,rfl,rfl⟩⟩
  ·rename_i p g n gc hm
   split at h
   ·rename_i cs hg
    split at h
    ·rename_i hn
     simp only [Option.map_eq_some_iff,Prod.mk.injEq] at h
     obtain ⟨l,h1,rfl,rfl⟩:=h
     exact ⟨i,p,_,rfl,hm,.inr ⟨g,n,gc,cs,l,rfl,hg,hn,rdB_spec h1,rfl,rfl⟩⟩
    ·cases h
   ·cases h
  ·cases h
 ·cases h
theorem str_ok (henter:∀ (asl:Array Value) (w:World),(callFunc f asl).run P w=.ok (.enter f asl) w)
 (hex:∀ b g o cap (l:List UInt8) (cur:Array Value) (fz:Nat × Nat) (w:World),l≠[]→cap≠0→w.cell? ⟨b,1,none⟩=some (.slice (some ⟨g,o,none⟩) l.length cap)→w.heap[g]? =some (.cells cur P.rt.byte fz)→
   o+l.length≤cur.size→l.length≤9223372036854775807→(∀ j x,l[j]? =some x→w.cell? ⟨g,o+j,none⟩=some (.int .u8 x.toNat))→
   Calls P f #[.pointer (some ⟨b,0,none⟩)] w fun e w'=>e=.returned (.string ⟨l.toArray⟩)∧w'=w.drew.freeze ⟨g,o,none⟩ l.length)
 (hnil:∀ b (w:World),w.cell? ⟨b,1,none⟩=some (.slice none 0 0)→Calls P f #[.pointer (some ⟨b,0,none⟩)] w fun e w'=>e=.returned (.string .empty)∧w'=w.drew):ExtOk P f runStr:=by
 refine ⟨henter,fun args H v H' h=>?_⟩
 obtain ⟨i,p,s,rfl,hm,hc⟩:=runStr_some h
 obtain ⟨hlim,hobj⟩:=mine_some hm
 refine ⟨fun hw=>?_,fun base ι w args' hw hR ha _=>?_⟩
 ·rcases hc with ⟨_,_,rfl⟩|⟨g,n,gc,cs,l,_,hg,_,_,_,rfl⟩
  ·exact Fwd.refl _
  ·obtain ⟨h1,h2⟩:=mine_some hg
   exact Fwd.put hw h1 h2 rfl
 obtain ⟨a',r,rfl,ha1,hr0⟩:=ha.cons_inv
 obtain rfl:=hr0.nil_inv
 obtain ⟨l,hi,rfl⟩:=ha1.ptr_inv
 obtain ⟨hu1,hcells,hown⟩:=hR.obj i l _ hi hobj
 obtain ⟨hb1,hsz,C,t,fz,hheap,hC,hfr,hty⟩:=hown rfl hlim
 obtain ⟨ht,hoff,hs2⟩:=hty.2 rfl
 obtain ⟨q1,s',q2,q3⟩:=hcells 1 s rfl
 rw [hoff] at q2 ⊢
 rcases hc with ⟨rfl,rfl,rfl⟩|⟨g,n,gc,cs,bs,rfl,hg,hn,hbs,rfl,rfl⟩
 ·obtain rfl:s'=.slice none 0 0:=q3.lit_inv rfl
  refine (hnil l.block w q2).mono fun e w' hh=>?_
  obtain ⟨rfl,rfl⟩:=hh
  exact ⟨_,rfl,ι,VR.litVal rfl,hR.le (Le.drew w),(Below.refl _ w).drew,Inj.le.refl _,fun j l' e=>.inl e⟩
 ·cases q3 with
  |lit hl=>simp [litFlat] at hl
  |sl hl hnc hgc hbd=>
   rename_i c' lg
   obtain ⟨hlimg,hobjg⟩:=mine_some hg
   obtain ⟨gu1,gcells,gown⟩:=hR.obj g lg _ hl hobjg
   obtain ⟨gb1,gsz,D,td,fd,gheap,gD,gfr,gty⟩:=gown rfl hlimg
   obtain rfl:=gty.1 rfl
   have hlen:bs.length=n+1:=by
    have:=congrArg List.length hbs
    rw [u8s_length,List.length_take] at this
    omega
   have hbj:∀ (j:Nat) x,bs[j]? =some x→cs[j]? =some (.int .u8 (x.toNat:Int)):=fun j x hx=>by
    have h1:(cs.take (n+1))[j]? =some (.int .u8 (x.toNat:Int)):=by rw [hbs];simp [u8s,hx]
    rw [List.getElem?_take] at h1
    split at h1
    ·exact h1
    ·cases h1
   have hbn:¬ bs=[]:=by intro e;simp [e] at hlen
   have hrun:=hex l.block lg.block (lg.off+0) c' bs D fd w hbn (by omega) (by rw [hlen];exact q2) gheap (by omega) (by omega) (fun j x hx=>by
    obtain ⟨_,v',k2,k3⟩:=gcells j _ (hbj j x hx)
    rw [k3.lit_inv rfl] at k2
    exact k2)
   refine hrun.mono fun e w' hh=>?_
   obtain ⟨rfl,rfl⟩:=hh
   have hne:∀ k,k≠lg.block→(w.drew.freeze ⟨lg.block,lg.off+0,none⟩ bs.length).heap[k]? =w.drew.heap[k]?:=fun k hk=>by
    simp [World.freeze,Array.getElem?_modify,Ne.symm hk,hbn]
   have hsize:(w.drew.freeze ⟨lg.block,lg.off+0,none⟩ bs.length).heap.size=w.drew.heap.size:=by simp [World.freeze,hbn]
   have gheap':w.drew.heap[lg.block]? =some (.cells D P.rt.byte fd):=gheap
   have hcell:∀ j,(w.drew.freeze ⟨lg.block,lg.off+0,none⟩ bs.length).cell? ⟨lg.block,j,none⟩=w.cell? ⟨lg.block,j,none⟩:=fun j=>by
    simp [World.cell?,World.freeze,Array.getElem?_modify,gheap',gheap,hbn]
   have hT:=(hR.le (Le.drew w)).turn (w':=w.drew.freeze ⟨lg.block,lg.off+0,none⟩ bs.length) (o':=.cells cs 257 false) hl hobjg hlimg rfl hsize hne ⟨gu1,fun j v hv=>by
    obtain ⟨q1,v',q2,q3⟩:=gcells j v hv
    exact ⟨q1,v',by rw [hcell];exact q2,q3⟩,fun e=>by cases e⟩
   exact ⟨_,rfl,ι,VR.litVal rfl,hT,Lib.below_freeze ((Below.refl base w).drew) gb1 _,Inj.le.refl _,fun j l' e=>.inl e⟩
end Go.Gh
end
section
namespace Go.Gh
set_option linter.unusedSimpArgs false
set_option linter.unusedVariables false
set_option maxHeartbeats 4000000
open Go.RowKit
def runIB:List Value→GHeap→Option (Value × GHeap)
 |[.slice none 0 0,.int .u8 _],H=>some (.int .i64 (-1),H)
 |[.slice (some ⟨i,o,none⟩) (n+1) _,.int .u8 c],H=>match H.cs i with
  |some cs=>match rdB ((cs.drop o).take (n+1)) with
   |some l=>if l.length=n+1 then some (.int .i64 (Go.Lib.indexByte l c.toNat.toUInt8),H) else none
   |none=>none
  |none=>none
 |_,_=>none
def runIx:List Value→GHeap→Option (Value × GHeap)
 |[.slice (some ⟨i,o,none⟩) (n+1) _,.slice (some ⟨j,p,none⟩) 1 _],H=>match H.cs i,H.cs j with
  |some cs,some ds=>match rdB ((cs.drop o).take (n+1)),ds[p]? with
   |some l,some (.int .u8 c)=>if l.length=n+1 then some (.int .i64 (Go.Lib.indexByte l c.toNat.toUInt8),H) else none
   |_,_=>none
  |_,_=>none
 |_,_=>none
def runRep:List Value→GHeap→Option (Value × GHeap)
 |[.slice (some ⟨i,o,none⟩) 1 _,.int .i64 n],H=>match H.cs i with
  |some cs=>match cs[o]? with
   |some (.int .u8 x)=>if 0≤n∧n≤8192∧0≤x∧x≤255 then some (.slice (some ⟨H.len,0,none⟩) n.toNat (n.toNat+1),H.add (some (.cells (List.replicate n.toNat (.int .u8 x)) 257 true))) else none
   |_=>none
  |none=>none
 |_,_=>none
end Go.Gh
end
section
namespace Go.Gh
set_option linter.unusedSimpArgs false
set_option linter.unusedVariables false
set_option maxHeartbeats 4000000
open Go.RowKit
variable {P:Program} {f:FuncId}
def rdS:List Value→Option (List ByteArray)
 |[]=>some []
 |.string s :: r=>(rdS r).map (s :: ·)
 |_ :: _=>none
theorem rdS_spec:∀ {cs:List Value} {l:List ByteArray},rdS cs=some l→cs=l.map .string
 |[],l,h=>by cases h;rfl
 |v :: r,l,h=>by
  unfold rdS at h
  split at h
  ·rename_i e;cases e
  ·rename_i s r' e
   cases e
   simp only [Option.map_eq_some_iff] at h
   obtain ⟨l',h1,rfl⟩:=h
   rw [rdS_spec h1];rfl
  ·cases h
theorem rdS_map:∀ l:List ByteArray,rdS (l.map .string)=some l
 |[]=>rfl
 |x :: l=>by rw [List.map_cons,rdS,rdS_map l];rfl
def joinB (xs:List ByteArray) (sep:ByteArray):List UInt8:=Go.Lib.join (xs.map (·.data.toList)) sep.data.toList
def runJoin:List Value→GHeap→Option (Value × GHeap)
 |[.slice (some ⟨i,o,none⟩) (n+1) _,.string sep],H=>match H.cs i with
  |some cs=>match rdS ((cs.drop o).take (n+1)) with
   |some xs=>if xs.length=n+1∧n+1≤140737488355328∧(joinB xs sep).length≤140737488355328 then some (.string ⟨(joinB xs sep).toArray⟩,H) else none
   |none=>none
  |none=>none
 |_,_=>none
theorem runJoin_some {args:List Value} {H H':GHeap} {v:Value} (h:runJoin args H=some (v,H')):
 ∃ i o n gc sep cs xs,args=[.slice (some ⟨i,o,none⟩) (n+1) gc,.string sep]∧H.cs i=some cs∧(cs.drop o).take (n+1)=xs.map .string∧(xs.length=n+1∧n+1≤140737488355328∧(joinB xs sep).length≤140737488355328)∧v=.string ⟨(joinB xs sep).toArray⟩∧H'=H:=by
 unfold runJoin at h
 split at h
 ·rename_i i o n gc sep
  split at h
  ·rename_i cs hc
   split at h
   ·rename_i xs hx
    split at h
    ·rename_i hn
     simp only [Option.some.injEq,Prod.mk.injEq] at h
     exact ⟨i,o,n,gc,sep,cs,xs,rfl,hc,rdS_spec hx,hn,h.1.symm,h.2.symm⟩
    ·cases h
   ·cases h
  ·cases h
 ·cases h
theorem join_ok (henter:∀ (asl:Array Value) (w:World),(callFunc f asl).run P w=.ok (.enter f asl) w)
 (hj:∀ bk o c (xs:List ByteArray) (sep:ByteArray) (w:World),(∀ (j:Nat) x,xs[j]? =some x→w.cell? ⟨bk,o+j,none⟩=some (.string x))→bk < w.heap.size→xs.length≤140737488355328→xs.length≤c→
   (Go.Lib.join (xs.map (·.data.toList)) sep.data.toList).length≤140737488355328→
   Calls P f #[.slice (some ⟨bk,o,none⟩) xs.length c,.string sep] w fun e w'=>e=.returned (.string ⟨(Go.Lib.join (xs.map (·.data.toList)) sep.data.toList).toArray⟩)∧Below w.heap.size w w'):ExtOk P f runJoin:=by
 refine ⟨henter,fun args H v H' h=>?_⟩
 obtain ⟨i,o,n,gc,sep,cs,xs,rfl,hc,hx,⟨h1,h2,h3⟩,rfl,rfl⟩:=runJoin_some h
 refine ⟨fun hw=>Fwd.refl _,fun base ι w args' hw hR ha _=>?_⟩
 obtain ⟨a1,r,rfl,ha1,hr0⟩:=ha.cons_inv
 obtain ⟨a2,r,rfl,ha2,hr1⟩:=hr0.cons_inv
 obtain rfl:=hr1.nil_inv
 obtain rfl:a2=.string sep:=ha2.lit_inv rfl
 cases ha1 with
 |lit hl=>simp [litFlat] at hl
 |sl hl hnc hgc hbd=>
  rename_i c' lg
  unfold GHeap.cs at hc
  split at hc
  ·rename_i cs' u own hob
   cases hc
   obtain ⟨_,hcells,_⟩:=hR.obj i lg _ hl hob
   have hcell:∀ (j:Nat) x,xs[j]? =some x→w.cell? ⟨lg.block,lg.off+o+j,none⟩=some (.string x):=fun j x hxj=>by
    have e1:(xs.map Value.string)[j]? =some (.string x):=by rw [List.getElem?_map,hxj];rfl
    rw [← hx,List.getElem?_take] at e1
    split at e1
    ·rw [List.getElem?_drop] at e1
     obtain ⟨_,v',k1,k2⟩:=hcells (o+j) _ e1
     rw [k2.lit_inv rfl] at k1
     rw [Nat.add_assoc];exact k1
    ·cases e1
   have hrun:=hj lg.block (lg.off+o) c' xs sep w hcell (hR.blk i lg hl) (by omega) (by omega) h3
   rw [h1] at hrun
   refine hrun.mono fun e w' hh=>?_
   obtain ⟨rfl,hb⟩:=hh
   exact ⟨_,rfl,ι,VR.litVal rfl,hR.le hb,hb.mono hR.low,Inj.le.refl _,fun j l' e=>.inl e⟩
  ·cases hc
end Go.Gh
end
