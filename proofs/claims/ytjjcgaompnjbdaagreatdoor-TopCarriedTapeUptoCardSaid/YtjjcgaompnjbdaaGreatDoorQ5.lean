/-
  Parts of the proof: walks of the ghost functions and the laws of what they compute. No condition.
-/
import Derived.Test.YtjjcgaompnjbdaaGreatDoorQ4
import Derived.Test.YtjjcgaompnjbdaaGreatDoorQ1
section
namespace Go.Gh
set_option linter.unusedSimpArgs false
set_option linter.unusedVariables false
set_option maxHeartbeats 4000000
open Go.RowKit
set_option maxRecDepth 4000
def ErrIs (r:Value) (p:Prop):Prop:=∃ n:Int,r=.int .i64 n∧(n=0↔p)
theorem ErrIs.yes {p:Prop} (h:p):ErrIs (.int .i64 0) p:=⟨0,rfl,fun _=>h,fun _=>rfl⟩
theorem ErrIs.no {p:Prop} {n:Int} (hn:n≠0) (h:¬ p):ErrIs (.int .i64 n) p:=⟨n,rfl,fun e=>absurd e hn,fun e=>absurd e h⟩
theorem gb_lssS {e:Option EqK} {x y:ByteArray}:gbin .lss e (.string x) (.string y)=some (.bool (Op.bytesLess x.toList y.toList)):=by simp [gbin,gstr]
theorem bang_mem {α:Type} [Inhabited α] {l:List α} {j:Nat} (h:j < l.length):l[j]! ∈ l:=by rw [getElem!_pos l j h];exact List.getElem_mem _
theorem checkList_ok {H:GHeap} (hw:H.wf) {v:Value} {l:List Rg} (hv:RgR H v l) (hl:l.length≤1048576) (hs:∀ r ∈ l,smG r):
 ∃ r H',gev G 60 [v] H=some (r,H')∧(ErrIs r (rgsOk l)∧Same H H'):=by
 refine gev_GW (f:=60) rfl fun Post hPost=>?_
 have hlim:=hw.1
 have hsl:=hv.rd.isSl
 simp only [frameOf,Nat.reduceAdd]
 repeat' (first|refine zz2 @g60.eq_1 hsl.len ?_|(refine zh (fun hc=>?_) (fun hc=>?_)<;>try simp only [yL] at hc))
 case refine_1=>exact hPost _ _ ⟨ErrIs.no (by decide) fun h=>by have:=h.1;omega,Same.refl hw⟩
 refine GW_loop (fun k fr H1=>∃ j:Nat,k=l.length - j∧j≤l.length∧fr.get 0=some (v)∧fr.get 9=some (v)∧fr.get 10=some (.int .i64 l.length)∧fr.get 11=some (.int .i64 j)∧Same H H1∧∀ i,i < j→rgOk l[i]!∧(0 < i→l[i]!.nm≠l[i - 1]!.nm∧Op.bytesLess (strB l[i]!.nm).toList (strB l[i - 1]!.nm).toList=false)) ?_ l.length ?_
 case refine_2.refine_2=>
  refine ⟨0,by omega,by omega,?_⟩
  simp only [↓yG,Nat.reduceEqDiff,↓reduceIte,Int.natCast_add,Int.cast_ofNat_Int,Int.natCast_zero,true_and,and_true,Option.some.injEq,Value.int.injEq]
  exact ⟨Same.refl hw,fun i hi=>absurd hi (by omega)⟩
 rintro k fr H1 ⟨j,rfl,hj,f0,f9,f10,f11,hS,hall⟩ J hJ
 have hw1:=hS.wf
 have hlim1:=hw1.1
 by_cases hj1:j < l.length
 ·have hvl:RgR H1 v l:=GArg1.same hv hw hS
  have e1:=hvl.rowN hj1
  have hsm:=hs _ (bang_mem hj1)
  have hnx:(rgOk l[j]!∧(0 < j→l[j]!.nm≠l[j - 1]!.nm∧Op.bytesLess (strB l[j]!.nm).toList (strB l[j - 1]!.nm).toList=false))→∀ i,i < j+1→rgOk l[i]!∧(0 < i→l[i]!.nm≠l[i - 1]!.nm∧Op.bytesLess (strB l[i]!.nm).toList (strB l[i - 1]!.nm).toList=false):=fun h i hi=>by
   by_cases e:i=j
   ·subst e;exact h
   ·exact hall i (by omega)
  have hbd:∀ {n:Int} {H'},n≠0→Same H H'→¬ (rgOk l[j]!∧(0 < j→l[j]!.nm≠l[j - 1]!.nm∧Op.bytesLess (strB l[j]!.nm).toList (strB l[j - 1]!.nm).toList=false))→Post (.int .i64 n) H':=fun hn hS' h=>hPost _ _ ⟨ErrIs.no hn fun hh=>h (hh.2 j hj1),hS'⟩
  have hp:0 < j→H1.rd (blk v) (ofs v+(j - 1) * 7)=some (.string (strB l[j - 1]!.nm)):=fun h0=>hvl.row (k:=j - 1) (c:=0) (by omega) (by decide)
  generalize l[j]! =x at *
  generalize l[j - 1]! =y at *
  have hS12:Same H1 ((H1.add (some (.cells [.string ⟨#[]⟩,.int .i64 0,.int .i64 0,.int .i64 0,.int .i64 0,.int .u8 0,.bool false] 0 true))).put H1.len (.cells (rgC x) 0 true)):=(Same.refl hw1).new _ _
  clear hall
  repeat' (first|(exfalso;omega)|refine zz8 @g60.eq_1 @f0 @f9 @f10 @f11 @RG hsl.ix @e1 ?_|(refine zh (fun hc=>?_) (fun hc=>?_)<;>try simp only [yL] at hc))
  refine zc5 @f0 @f9 @f10 @f11 @RG (one_of (rgCheck_ok hsm _)) fun r1 H2 hq=>?_
  obtain ⟨rfl,rfl⟩:=hq
  have hS2:=hS.trans hS12
  by_cases hx:rgE x=0
  case neg=>
   repeat' (first|(exfalso;omega)|refine zz6 @g60.eq_1 @f0 @f9 @f10 @f11 @RG ?_|(refine zh (fun hc=>?_) (fun hc=>?_)<;>try simp only [yL] at hc))
   all_goals exact hbd hx hS2 fun h=>hx ((rgE_ok x).2 h.1)
  have hok:=(rgE_ok x).1 hx
  have hgo:∀ {fr'},(0 < j→x.nm≠y.nm∧Op.bytesLess (strB x.nm).toList (strB y.nm).toList=false)→fr'.get 0=some (v)∧fr'.get 9=some (v)∧fr'.get 10=some (.int .i64 l.length)∧fr'.get 11=some (.int .i64 ((j+1:Nat):Int))→J fr' ((H1.add (some (.cells [.string ⟨#[]⟩,.int .i64 0,.int .i64 0,.int .i64 0,.int .i64 0,.int .u8 0,.bool false] 0 true))).put H1.len (.cells (rgC x) 0 true)):=fun h ⟨q0,q9,q10,q11⟩=>
   hJ _ _ ⟨l.length - (j+1),by omega,j+1,rfl,by omega,q0,q9,q10,q11,hS2,hnx ⟨hok,h⟩⟩
  clear hJ hnx
  rw [hx]
  by_cases h0:0 < j
  case neg=>
   have d0:decide ((0:Int) < j)=false:=decide_eq_false (by omega)
   repeat' (first|(exfalso;omega)|refine zz7 @g60.eq_1 @f0 @f9 @f10 @f11 @RG @d0 ?_|(refine zh (fun hc=>?_) (fun hc=>?_)<;>try simp only [yL] at hc))
   refine hgo (fun h=>absurd h h0) ?_
   simp only [↓yG,Nat.reduceEqDiff,↓reduceIte,Int.natCast_add,Int.cast_ofNat_Int,Int.natCast_zero,true_and,and_true,Option.some.injEq,Value.int.injEq,f0,f9,f10]
  have d0:decide ((0:Int) < j)=true:=decide_eq_true (by omega)
  have hp2:=(hS12.rd (i:=blk v) (o:=ofs v+(j - 1) * 7) (hvl.rd.lt (by omega))).trans (hp h0)
  have hia:gia none 7 v (.int .i64 ((j:Int) - 1))=some (.pointer (some ⟨blk v,ofs v+(j - 1) * 7,none⟩)):=by
   rw [hsl.ia (by omega) (by omega)]
   congr 5
   omega
  have x0:((H1.add (some (.cells [.string ⟨#[]⟩,.int .i64 0,.int .i64 0,.int .i64 0,.int .i64 0,.int .u8 0,.bool false] 0 true))).put H1.len (.cells (rgC x) 0 true)).rd H1.len 0=some (.string (strB x.nm)):=by rw [rd_put_same];rfl
  generalize (H1.add (some (.cells [.string ⟨#[]⟩,.int .i64 0,.int .i64 0,.int .i64 0,.int .i64 0,.int .u8 0,.bool false] 0 true))).put H1.len (.cells (rgC x) 0 true)=H2 at *
  repeat' (first|(exfalso;omega)|refine zz11 @g60.eq_1 @f0 @f9 @f10 @f11 @RG @d0 @hia @hp2 @x0 @gb_lssS ?_|(refine zh (fun hc=>?_) (fun hc=>?_)<;>try simp only [yL] at hc))
  case pos.refine_1=>exact hbd (by decide) hS2 fun h=>(h.2 h0).1 hc
  case pos.refine_2.refine_1=>exact hbd (by decide) hS2 fun h=>by rw [(h.2 h0).2] at hc;cases hc
  refine hgo (fun _=>⟨by assumption,by simpa using hc⟩) ?_
  simp only [↓yG,Nat.reduceEqDiff,↓reduceIte,Int.natCast_add,Int.cast_ofNat_Int,Int.natCast_zero,true_and,and_true,Option.some.injEq,Value.int.injEq,f0,f9,f10]
 ·obtain rfl:j=l.length:=by omega
  repeat' (first|(exfalso;omega)|refine zz5 @g60.eq_1 @f0 @f9 @f10 @f11 ?_|(refine zh (fun hc=>?_) (fun hc=>?_)<;>try simp only [yL] at hc))
  by_cases hl16:l.length≤16
  ·exact hPost _ _ ⟨ErrIs.yes ⟨hl16,hall⟩,hS⟩
  ·exact absurd hc (by omega)
theorem find_at {α:Type} [Inhabited α] {p:α→Bool}:∀ {l:List α} {j:Nat},j < l.length→(∀ i,i < j→p l[i]! =false)→p l[j]! =true→l.find? p=some l[j]!
 |x :: l,0,_,_,h=>by
  have h:p x=true:=h
  rw [List.find?_cons,h];rfl
 |x :: l,j+1,hj,h0,h=>by
  have hx:p x=false:=h0 0 (by omega)
  rw [List.find?_cons,hx,List.getElem!_cons_succ]
  exact find_at (by simpa using hj) (fun i hi=>by have:=h0 (i+1) (by omega);rwa [List.getElem!_cons_succ] at this) (by rwa [List.getElem!_cons_succ] at h)
def findV (R:List Rg) (n:List UInt8):Rg × Bool:=match findR R n with
 |some r=>(r,true)
 |none=>(⟨[],0,0,0,0,0,false⟩,false)
theorem find_ok {H:GHeap} (hw:H.wf) {v:Value} {l:List Rg} (hv:RgR H v l) (hl:l.length≤1048576) (n:List UInt8):
 ∃ r H',gev G 77 [v,.string (strB n)] H=some (r,H')∧(r=.tuple #[rgV (findV l n).1,.bool (findV l n).2]∧Same H H'):=by
 refine gev_GW (f:=77) rfl fun Post hPost=>?_
 have hlim:=hw.1
 have hsl:=hv.rd.isSl
 simp only [frameOf,Nat.reduceAdd]
 by_cases hn:n=[]
 ·have hF:findV l n=(dfl,true):=by unfold findV findR;rw [if_pos hn]
  rw [hF] at hPost
  subst hn
  have d1:decide (([]:List UInt8)=[])=true:=rfl
  repeat' (first|refine zz3 @g77.eq_1 @RG @gb_eqE ?_|(refine zh (fun hc=>?_) (fun hc=>?_)<;>try simp only [yL] at hc))
  refine zc0 (one_of (default_ok _)) fun r1 H2 hq=>?_
  obtain ⟨rfl,rfl⟩:=hq
  repeat' (first|refine zz2 @g77.eq_1 @RG ?_|(refine zh (fun hc=>?_) (fun hc=>?_)<;>try simp only [yL] at hc))
  exact hPost _ _ ⟨rfl,(Same.refl hw).new _ _⟩
 have hF:findV l n=match l.find? fun r=>decide (r.nm=n) with
  |some r=>(r,true)
  |none=>(⟨[],0,0,0,0,0,false⟩,false):=by unfold findV findR;rw [if_neg hn]
 have d1:decide (n=[])=false:=decide_eq_false hn
 repeat' (first|refine zz5 @g77.eq_1 @RG @gb_eqE @d1 hsl.len ?_|(refine zh (fun hc=>?_) (fun hc=>?_)<;>try simp only [yL] at hc))
 rw [hF] at hPost
 obtain ⟨Hz,hHz⟩:∃ Hz,Hz=H.add (some (.cells [.string ⟨#[]⟩,.int .i64 0,.int .i64 0,.int .i64 0,.int .i64 0,.int .u8 0,.bool false] 0 true)):=⟨_,rfl⟩
 rw [← hHz]
 have hSz:Same H Hz:=hHz ▸ (Same.refl hw).add _
 have hm:Hz.mine H.len=some ([.string ⟨#[]⟩,.int .i64 0,.int .i64 0,.int .i64 0,.int .i64 0,.int .u8 0,.bool false],0):=by rw [hHz,mine_add_eq rfl hw.1]
 have hlz:H.len < Hz.len:=by rw [hHz,len_add];omega
 clear hHz
 refine GW_loop (fun k fr H1=>∃ j:Nat,k=l.length - j∧j≤l.length∧fr.get 1=some (.string (strB n))∧fr.get 4=some (.pointer (some ⟨H.len,0,none⟩))∧fr.get 11=some (v)∧fr.get 12=some (.int .i64 l.length)∧fr.get 13=some (.int .i64 j)∧Same Hz H1∧∀ i,i < j→l[i]!.nm≠n) ?_ l.length ?_
 case refine_2=>
  refine ⟨0,by omega,by omega,?_⟩
  simp only [↓yG,Nat.reduceEqDiff,↓reduceIte,Int.natCast_add,Int.cast_ofNat_Int,Int.natCast_zero,true_and,and_true,Option.some.injEq,Value.int.injEq]
  exact ⟨Same.refl hSz.wf,fun i hi=>absurd hi (by omega)⟩
 rintro k fr H1 ⟨j,rfl,hj,f1,f4,f11,f12,f13,hS1,hall⟩ J hJ
 have hS:=hSz.trans hS1
 have hw1:=hS.wf
 have hlim1:=hw1.1
 have hl1:=hS1.len
 have hm1:H1.mine H.len=some ([.string ⟨#[]⟩,.int .i64 0,.int .i64 0,.int .i64 0,.int .i64 0,.int .u8 0,.bool false],0):=(hS1.mine hlz).trans hm
 have hput:∀ {H2 o},Same H1 H2→Same H (H2.put H.len o):=fun h=>(hS.trans h).put (Nat.le_refl _) (by have:=h.len;omega) _
 by_cases hj1:j < l.length
 ·have hvl:RgR H1 v l:=GArg1.same hv hw hS
  have e1:=hvl.rowN hj1
  have hyes:l[j]!.nm=n→l.find? (fun r=>decide (r.nm=n))=some l[j]!:=fun h=>find_at hj1 (fun i hi=>by simpa using hall i hi) (by simpa using h)
  have hno:∀ h:l[j]!.nm≠n,∀ i,i < j+1→l[i]!.nm≠n:=fun h i hi=>by
   by_cases e:i=j
   ·subst e;exact h
   ·exact hall i (by omega)
  generalize l[j]! =x at *
  have hS12:Same H1 ((H1.add (some (.cells [.string ⟨#[]⟩,.int .i64 0,.int .i64 0,.int .i64 0,.int .i64 0,.int .u8 0,.bool false] 0 true))).put H1.len (.cells (rgC x) 0 true)):=(Same.refl hw1).new _ _
  repeat' (first|(exfalso;omega)|refine zz10 @g77.eq_1 @f1 @f4 @f11 @f12 @f13 @RG hsl.ix @e1 @hm1 ?_|(refine zh (fun hc=>?_) (fun hc=>?_)<;>try simp only [yL] at hc))
  case pos.refine_1=>
   rw [hyes hc] at hPost
   exact hPost _ _ ⟨rfl,hput hS12⟩
  refine hJ _ _ ⟨l.length - (j+1),by omega,j+1,rfl,by omega,?_⟩
  simp only [↓yG,Nat.reduceEqDiff,↓reduceIte,Int.natCast_add,Int.cast_ofNat_Int,Int.natCast_zero,true_and,and_true,Option.some.injEq,Value.int.injEq,f1,f4,f11,f12]
  exact ⟨hS1.trans hS12,hno hc⟩
 ·obtain rfl:j=l.length:=by omega
  have hnone:l.find? (fun r=>decide (r.nm=n))=none:=List.find?_eq_none.2 fun r hr=>by
   obtain ⟨i,hi,rfl⟩:=List.getElem_of_mem hr
   have:=hall i hi
   rw [getElem!_pos l i hi] at this
   simpa using this
  rw [hnone] at hPost
  repeat' (first|(exfalso;omega)|refine zz8 @g77.eq_1 @f1 @f4 @f11 @f12 @f13 @RG @hm1 ?_|(refine zh (fun hc=>?_) (fun hc=>?_)<;>try simp only [yL] at hc))
  exact hPost _ _ ⟨rfl,hput (Same.refl hw1)⟩
theorem findV_sm {l:List Rg} {n:List UInt8} (hs:∀ r ∈ l,smG r):smG (findV l n).1:=by
 unfold findV findR
 split
 ·rename_i r h
  split at h
  ·cases h;exact ⟨by decide,by decide,by decide⟩
  ·exact hs r (List.mem_of_find?_eq_some h)
 ·exact ⟨by decide,by decide,by decide⟩
end Go.Gh
end
section
namespace Go.Gh
set_option linter.unusedSimpArgs false
set_option linter.unusedVariables false
set_option maxHeartbeats 4000000
open Go.RowKit
set_option maxRecDepth 4000
def spC (a b c:Int):List Value:=[.int .i64 a,.int .i64 b,.int .i64 c]
def spV' (a b c:Int):Value:=.agg #[.int .i64 a,.int .i64 b,.int .i64 c]
theorem sp_cells (a b c:Int):(spV' a b c).cells.toList=spC a b c:=rfl
theorem sp_cflat (a b c:Int):(spV' a b c).cells.all flatV=true:=by rw [← Array.all_toList];simp [sp_cells,spC,flatV]
theorem sp_eq (a b c:Int):Value.agg #[.int .i64 a,.int .i64 b,.int .i64 c]=spV' a b c:=rfl
theorem spC_1 (a b c:Int):(spC a b c)[1]? =some (.int .i64 b):=rfl
theorem gsetn_sp {cs:List Value} {a b c:Int} (h:cs.length=3):gsetn cs 0 3 (spV' a b c)=some (spC a b c):=gsetn_all h rfl (by simp [flatV])
theorem gset_sp {a b c x:Int}:gset (spC a b c) 1 (.int .i64 x)=some (spC a x c):=gset_ok (by simp [spC]) rfl
theorem rdn_spp {H:GHeap} {j:Nat} {a b c:Int} {u:Nat} {q:Bool}:(H.put j (.cells (spC a b c) u q)).rdn j 0 3=some (spV' a b c):=rdn_put_all rfl
theorem fill_sp {a b c:Int}:fillL (zeros [.int .i64 0,.int .i64 0,.int .i64 0] 1) [(0,3,spV' a b c)]=some (spC a b c):=by
 have:(spC a b c).all flatV=true:=by simp [spC,flatV]
 simp [fillL,sp_cells,zeros,this,spC,flatV]
theorem RP:type_of% (And.intro (And.intro (And.intro @sp_cells @sp_cflat) (And.intro @sp_eq @spC_1)) (And.intro (And.intro @gsetn_sp @gset_sp) (And.intro @rdn_spp @fill_sp))):=⟨⟨⟨@sp_cells,@sp_cflat⟩,⟨@sp_eq,@spC_1⟩⟩,⟨⟨@gsetn_sp,@gset_sp⟩,⟨@rdn_spp,@fill_sp⟩⟩⟩
theorem us_range {r:Rg} (h:usabl r):(0≤r.t∧r.t≤14)∧(1≤r.h∧r.h≤15)∧(0≤r.l∧r.l≤31)∧(1≤r.w∧r.w≤32):=by
 rcases h with rfl|h
 ·exact ⟨by decide,by decide,by decide,by decide⟩
 ·unfold rgOk at h;omega
def colF (r:Rg) (n:Int):Int:=if r.al=3 then r.l+(r.w - n) else if r.al=2 then r.l+(r.w - n) / 2 else r.l
def topF (r:Rg) (n:Nat):Int:=if r.bt=true then r.t+(r.h - n) else r.t
def spF (r:Rg) (N:List Int) (i:Nat):List Value:=spC (topF r N.length+i) (colF r N[i]!) N[i]!
theorem spF_len (r:Rg) (N:List Int) (i:Nat):(spF r N i).length=3:=rfl
theorem spF_succ (r:Rg) (N:List Int) (j:Nat):(List.range j).flatMap (spF r N) ++ spC (topF r N.length+j) (colF r N[j]!) N[j]! =(List.range (j+1)).flatMap (spF r N):=by
 rw [List.range_succ,List.flatMap_append];simp [spF]
theorem place_ok' {H:GHeap} (hw:H.wf) {r:Rg} (hr:smG r) {w:Value} {N:List Int} (hN:GRd H 1 w N.length (ints .i64 N)) (hl:N.length≤1048576):
 ∃ res H',gev G 105 [rgV r,w] H=some (res,H')∧(∃ s e,res=.tuple #[s,e]∧ErrIs e (plcOk r N)∧Same H H'∧(plcOk r N→OS 3 3 H H' s N.length ((List.range N.length).flatMap (spF r N)))):=by
 refine gev_GW (f:=105) rfl fun Post hPost=>?_
 have hlim:=hw.1
 have hsl:=hN.isSl
 simp only [frameOf,Nat.reduceAdd]
 have hbd:∀ {s:Value} {n:Int} {H'},n≠0→Same H H'→¬ plcOk r N→Post (.tuple #[s,.int .i64 n]) H':=fun hn hS h=>hPost _ _ ⟨_,_,rfl,ErrIs.no hn h,hS,fun k=>absurd k h⟩
 have hS1:Same H (H.add (some (.cells (rgC r) 0 true))):=(Same.refl hw).add _
 repeat' (first|refine zz3 @g105.eq_1 @RG hsl.len ?_|(refine zh (fun hc=>?_) (fun hc=>?_)<;>try simp only [yL] at hc))
 refine zc1 @RG (one_of (usable_ok hr _)) fun r1 H1 hq=>?_
 obtain ⟨rfl,rfl⟩:=hq
 by_cases hu:usabl r
 case neg=>
  have d0:usB r=false:=by rw [← Bool.not_eq_true,usB_ok];exact hu
  repeat' (first|refine zz3 @g105.eq_1 @RG @d0 ?_|(refine zh (fun hc=>?_) (fun hc=>?_)<;>try simp only [yL] at hc))
  exact hbd (by decide) hS1 fun h=>hu h.1
 have d0:usB r=true:=(usB_ok r).2 hu
 obtain ⟨u1,u2,u3,u4⟩:=us_range hu
 have hsc:=spF_succ r N
 have htr:(N.length:Int)≤r.h→0≤topF r N.length∧topF r N.length≤40:=fun h=>by unfold topF;split<;>omega
 obtain ⟨tp,htp0⟩:∃ tp,tp=topF r N.length:=⟨_,rfl⟩
 rw [← htp0] at hsc htr
 repeat' (first|refine zz4 @g105.eq_1 @RG @d0 hsl.len ?_|(refine zh (fun hc=>?_) (fun hc=>?_)<;>try simp only [yL] at hc))
 case pos.refine_1=>exact hbd (by decide) hS1 fun h=>by have:=h.2.1;omega
 all_goals
  have htp:=htr (by omega)
  refine GW_loop (fun k fr H1=>∃ (j:Nat) (s:Value),k=N.length - j∧j≤N.length∧fr.get 2=some (.pointer (some ⟨H.len,0,none⟩))∧fr.get 6=some (.int .i64 tp)∧fr.get 7=some (s)∧fr.get 32=some (w)∧fr.get 33=some (.int .i64 N.length)∧fr.get 34=some (.int .i64 j)∧OS 3 3 (H.add (some (.cells (rgC r) 0 true))) H1 s j ((List.range j).flatMap (spF r N))∧∀ i,i < j→0≤N[i]!∧N[i]!≤r.w) ?_ N.length ?_
  rotate_left
  ·first
    |(have ht:r.t+(r.h - (N.length:Int))=tp:=by rw [htp0,topF,if_pos hc]
      refine ⟨0,.slice none 0 0,by omega,by omega,?_⟩
      simp only [↓yG,Nat.reduceEqDiff,↓reduceIte,Int.natCast_add,Int.cast_ofNat_Int,Int.natCast_zero,true_and,and_true,Option.some.injEq,Value.int.injEq,ht]
      exact ⟨OS.nil (Same.refl hS1.wf),fun i hi=>absurd hi (by omega)⟩)
    |(have ht:r.t=tp:=by rw [htp0,topF,if_neg (by simp [hc])]
      refine ⟨0,.slice none 0 0,by omega,by omega,?_⟩
      simp only [↓yG,Nat.reduceEqDiff,↓reduceIte,Int.natCast_add,Int.cast_ofNat_Int,Int.natCast_zero,true_and,and_true,Option.some.injEq,Value.int.injEq,ht]
      exact ⟨OS.nil (Same.refl hS1.wf),fun i hi=>absurd hi (by omega)⟩)
  rintro k fr H1 ⟨j,s,rfl,hj,f2,f6,f7,f32,f33,f34,hO,hall⟩ J hJ
  have hS:=hS1.trans hO.same
  have hw1:=hS.wf
  have hlim1:=hw1.1
  have hll1:=hO.same.len
  rw [len_add] at hll1
  have hr0:∀ c,H1.rd H.len c=(rgC r)[c]?:=fun c=>by rw [hO.same.rd (by rw [len_add];omega),rd_add_eq rfl]
  have q1:=hr0 1
  have q3:=hr0 3
  have q4:=hr0 4
  have q5:=hr0 5
  clear hr0
  by_cases hj1:j < N.length
  ·have e1:H1.rd (blk w) (ofs w+j)=some (.int .i64 N[j]!):=by
    rw [(hN.same hS).rd (by rw [ints_length];exact hj1),ints_at hj1]
   have hnx:0≤N[j]!∧N[j]!≤r.w→∀ i,i < j+1→0≤N[i]!∧N[i]!≤r.w:=fun h i hi=>by
    by_cases e:i=j
    ·subst e;exact h
    ·exact hall i (by omega)
   have hbd2:∀ {s:Value} {n:Int},n≠0→¬ (0≤N[j]!∧N[j]!≤r.w)→Post (.tuple #[s,.int .i64 n]) H1:=fun hn h=>hbd hn hS fun hh=>h (hh.2.2 _ (bang_mem hj1))
   have hsj:=hsc j
   clear hsc
   generalize hxs:(List.range j).flatMap (spF r N)=xs at *
   generalize N[j]! =n at *
   by_cases hn:0≤n∧n≤r.w
   case neg=>
    repeat' (first|(exfalso;omega)|refine zz13 @g105.eq_1 @f2 @f6 @f7 @f32 @f33 @f34 @RG @RP hsl.ix @Nat.mul_one @e1 @q4 ?_|(refine zh (fun hc=>?_) (fun hc=>?_)<;>try simp only [yL] at hc))
    all_goals exact hbd2 (by decide) hn
   have dv:=dv64 (e:=none) (a:=r.w - n) (b:=2) (by omega) (by omega) (by omega)
   have g1:decide (n < 0)=false:=decide_eq_false (by omega)
   have g2:decide (r.w < n)=false:=decide_eq_false (by omega)
   have hS0:Same H1 ((H1.add (some (.cells [.int .i64 0,.int .i64 0,.int .i64 0] 0 true))).put H1.len (.cells (spC (tp+j) r.l n) 0 true)):=(Same.refl hw1).new _ _
   have hA:∀ b:Int,∃ v' H',gapp 3 24 3 (((H1.add (some (.cells [.int .i64 0,.int .i64 0,.int .i64 0] 0 true))).put H1.len (.cells (spC (tp+j) b n) 0 true)).add (some (.cells (spC (tp+j) b n) 3 true))) s (.slice (some ⟨H1.len+1,0,none⟩) 1 2)=some (v',H')∧OS 3 3 (H.add (some (.cells (rgC r) 0 true))) H' v' (j+1) (xs ++ spC (tp+j) b n):=fun b=>by
    obtain ⟨v',H',e,h,_⟩:=(hO.later (H':=(H1.add (some (.cells [.int .i64 0,.int .i64 0,.int .i64 0] 0 true))).put H1.len (.cells (spC (tp+j) b n) 0 true)) ((Same.refl hw1).new _ _)).app1 (by decide) (by decide) (news:=spC (tp+j) b n) rfl (b:=24) (by omega) (by omega)
    exact ⟨v',H',e,h⟩
   by_cases a3:r.al=3
   ·have z3:decide (r.al=3)=true:=decide_eq_true (by omega)
    have z2:decide (r.al=2)=false:=decide_eq_false (by omega)
    repeat' (first|(exfalso;omega)|refine zz21 @g105.eq_1 @f2 @f6 @f7 @f32 @f33 @f34 @RG @RP hsl.ix @Nat.mul_one @e1 @q1 @q3 @q4 @q5 @dv @g1 @g2 @z3 @z2 ?_|(refine zh (fun hc=>?_) (fun hc=>?_)<;>try simp only [yL] at hc))
    refine Gw_s fun K' hK'=>?_
    simp (disch:=first|exact zd|fail) only [↓yS,yT,↓reduceIte,Nat.reduceEqDiff,Nat.reduceAdd,Nat.reduceMul,reduceCtorEq,Int.reduceToNat,f2,f6,f7,f32,f33,f34]
    obtain ⟨v',H',e,hO'⟩:=hA (r.l+(r.w - n))
    refine G1_eq e (hK' _ _ ?_)
    clear hK' K' e
    repeat' (first|(exfalso;omega)|refine zz7 @g105.eq_1 @f2 @f6 @f7 @f32 @f33 @f34 ?_|(refine zh (fun hc=>?_) (fun hc=>?_)<;>try simp only [yL] at hc))
    refine hJ _ _ ⟨N.length - (j+1),by omega,j+1,v',rfl,by omega,?_⟩
    simp only [↓yG,Nat.reduceEqDiff,↓reduceIte,Int.natCast_add,Int.cast_ofNat_Int,Int.natCast_zero,true_and,and_true,Option.some.injEq,Value.int.injEq,f2,f6,f32,f33]
    rw [colF,if_pos a3] at hsj
    rw [← hsj]
    exact ⟨hO',hnx hn⟩
   by_cases a2:r.al=2
   ·have z3:decide (r.al=3)=false:=decide_eq_false (by omega)
    have z2:decide (r.al=2)=true:=decide_eq_true (by omega)
    repeat' (first|(exfalso;omega)|refine zz21 @g105.eq_1 @f2 @f6 @f7 @f32 @f33 @f34 @RG @RP hsl.ix @Nat.mul_one @e1 @q1 @q3 @q4 @q5 @dv @g1 @g2 @z3 @z2 ?_|(refine zh (fun hc=>?_) (fun hc=>?_)<;>try simp only [yL] at hc))
    refine Gw_s fun K' hK'=>?_
    simp (disch:=first|exact zd|fail) only [↓yS,yT,↓reduceIte,Nat.reduceEqDiff,Nat.reduceAdd,Nat.reduceMul,reduceCtorEq,Int.reduceToNat,f2,f6,f7,f32,f33,f34]
    obtain ⟨v',H',e,hO'⟩:=hA (r.l+(r.w - n) / 2)
    refine G1_eq e (hK' _ _ ?_)
    clear hK' K' e
    repeat' (first|(exfalso;omega)|refine zz7 @g105.eq_1 @f2 @f6 @f7 @f32 @f33 @f34 ?_|(refine zh (fun hc=>?_) (fun hc=>?_)<;>try simp only [yL] at hc))
    refine hJ _ _ ⟨N.length - (j+1),by omega,j+1,v',rfl,by omega,?_⟩
    simp only [↓yG,Nat.reduceEqDiff,↓reduceIte,Int.natCast_add,Int.cast_ofNat_Int,Int.natCast_zero,true_and,and_true,Option.some.injEq,Value.int.injEq,f2,f6,f32,f33]
    rw [colF,if_neg a3,if_pos a2] at hsj
    rw [← hsj]
    exact ⟨hO',hnx hn⟩
   have z3:decide (r.al=3)=false:=decide_eq_false (by omega)
   have z2:decide (r.al=2)=false:=decide_eq_false (by omega)
   repeat' (first|(exfalso;omega)|refine zz21 @g105.eq_1 @f2 @f6 @f7 @f32 @f33 @f34 @RG @RP hsl.ix @Nat.mul_one @e1 @q1 @q3 @q4 @q5 @dv @g1 @g2 @z3 @z2 ?_|(refine zh (fun hc=>?_) (fun hc=>?_)<;>try simp only [yL] at hc))
   refine Gw_s fun K' hK'=>?_
   simp (disch:=first|exact zd|fail) only [↓yS,yT,↓reduceIte,Nat.reduceEqDiff,Nat.reduceAdd,Nat.reduceMul,reduceCtorEq,Int.reduceToNat,f2,f6,f7,f32,f33,f34]
   obtain ⟨v',H',e,hO'⟩:=hA (r.l)
   refine G1_eq e (hK' _ _ ?_)
   clear hK' K' e
   repeat' (first|(exfalso;omega)|refine zz7 @g105.eq_1 @f2 @f6 @f7 @f32 @f33 @f34 ?_|(refine zh (fun hc=>?_) (fun hc=>?_)<;>try simp only [yL] at hc))
   refine hJ _ _ ⟨N.length - (j+1),by omega,j+1,v',rfl,by omega,?_⟩
   simp only [↓yG,Nat.reduceEqDiff,↓reduceIte,Int.natCast_add,Int.cast_ofNat_Int,Int.natCast_zero,true_and,and_true,Option.some.injEq,Value.int.injEq,f2,f6,f32,f33]
   rw [colF,if_neg a3,if_neg a2] at hsj
   rw [← hsj]
   exact ⟨hO',hnx hn⟩
  ·obtain rfl:j=N.length:=by omega
   repeat' (first|(exfalso;omega)|refine zz7 @g105.eq_1 @f2 @f6 @f7 @f32 @f33 @f34 ?_|(refine zh (fun hc=>?_) (fun hc=>?_)<;>try simp only [yL] at hc))
   refine hPost _ _ ⟨_,_,rfl,ErrIs.yes ⟨hu,by omega,fun n hn=>?_⟩,hS,fun _=>hO.weaken hS1⟩
   obtain ⟨i,hi,rfl⟩:=List.getElem_of_mem hn
   have:=hall i hi
   rwa [getElem!_pos N i hi] at this
end Go.Gh
end
section
namespace Go.Gh
set_option linter.unusedSimpArgs false
set_option linter.unusedVariables false
set_option maxHeartbeats 4000000
open Go.RowKit
set_option maxRecDepth 4000
theorem spans_ok {i o:Int} (H:GHeap):gev G 118 [s2 i o] H=some (.bool (decide (0≤i∧i < o∧o≤5184000)),H):=by
 refine gev_GWP (f:=118) rfl (by simp only [List.all_cons,List.all_nil,s2_lit,Bool.and_true]) rfl (fun Post hPost=>?_) H
 have hw:=root_wf
 have hlim:=hw.1
 simp only [frameOf,Nat.reduceAdd]
 by_cases h:0≤i∧i < o∧o≤5184000
 ·rw [decide_eq_true h] at hPost
  have d1:decide (0≤i)=true:=decide_eq_true h.1
  have d2:decide (i < o)=true:=decide_eq_true h.2.1
  have d3:decide (o≤5184000)=true:=decide_eq_true h.2.2
  repeat' (first|refine zz5 @g118.eq_1 @RS @d1 @d2 @d3 ?_|(refine zh (fun hc=>?_) (fun hc=>?_)<;>try simp only [yL] at hc))
  exact hPost _
 ·rw [decide_eq_false h] at hPost
  by_cases h1:0≤i
  ·by_cases h2:i < o
   ·have d1:decide (0≤i)=true:=decide_eq_true h1
    have d2:decide (i < o)=true:=decide_eq_true h2
    have d3:decide (o≤5184000)=false:=decide_eq_false fun h3=>h ⟨h1,h2,h3⟩
    repeat' (first|refine zz5 @g118.eq_1 @RS @d1 @d2 @d3 ?_|(refine zh (fun hc=>?_) (fun hc=>?_)<;>try simp only [yL] at hc))
    exact hPost _
   ·have d1:decide (0≤i)=true:=decide_eq_true h1
    have d2:decide (i < o)=false:=decide_eq_false h2
    repeat' (first|refine zz4 @g118.eq_1 @RS @d1 @d2 ?_|(refine zh (fun hc=>?_) (fun hc=>?_)<;>try simp only [yL] at hc))
    exact hPost _
  ·have d1:decide (0≤i)=false:=decide_eq_false h1
   repeat' (first|refine zz3 @g118.eq_1 @RS @d1 ?_|(refine zh (fun hc=>?_) (fun hc=>?_)<;>try simp only [yL] at hc))
   exact hPost _
def kndB (k:Int):List UInt8:=if k=1 then [68,73,65,76,79,71,85,69] else if k=2 then [83,79,85,78,68] else if k=3 then [84,73,84,76,69] else if k=4 then [77,85,83,73,67] else []
theorem kndB_nil (k:Int):kndB k=[]↔¬ (1≤k∧k≤4):=by
 unfold kndB
 (repeat' split)<;>simp<;>omega
noncomputable def chk32 (r:Nat):Bool:=match gbody (gcall G 60 3) 60 g119 [.int .u8 (r:Nat)] ⟨.nil,0,0⟩ with
 |some (.string s,_)=>s.data.toList == kndB r
 |_=>false
set_option maxRecDepth 100000 in
theorem all32:(List.range 256).all chk32=true:=by kernel_rfl
theorem kind_ok {r:Int} (hr:0≤r∧r≤255) (H:GHeap):gev G 119 [.int .u8 r] H=some (.string (strB (kndB r)),H):=by
 obtain ⟨n,rfl⟩:∃ n:Nat,r=n:=⟨r.toNat,by omega⟩
 have h:=List.all_eq_true.1 all32 n (List.mem_range.2 (by omega))
 refine gev_run (m:=60) (d:=3) (g:=g119) rfl rfl rfl ?_ H
 unfold chk32 at h
 split at h
 ·rename_i s H' e
  rw [e]
  simp only [beq_iff_eq] at h
  simp only [Option.map_some,Option.some.injEq,← h,strB_of]
 ·cases h
def cmpI (a b:Int):Int:=if a < b then -1 else if b < a then 1 else 0
theorem nan_ok {a:Int} (H:GHeap):gev G 158 [.int .i64 a] H=some (.bool false,H):=by
 refine gev_GWP (f:=158) rfl rfl rfl (fun Post hPost=>?_) H
 simp only [frameOf,Nat.reduceAdd]
 have d:decide (¬ a=a)=false:=by simp
 repeat' (first|refine zz2 @g158.eq_1 @d ?_|(refine zh (fun hc=>?_) (fun hc=>?_)<;>try simp only [yL] at hc))
 exact hPost _
theorem cmp_ok {a b:Int} (H:GHeap):gev G 99 [.int .i64 a,.int .i64 b] H=some (.int .i64 (cmpI a b),H):=by
 refine gev_GWP (f:=99) rfl rfl rfl (fun Post hPost=>?_) H
 simp only [frameOf,Nat.reduceAdd]
 unfold cmpI at hPost
 repeat' (first|refine zz1 @g99.eq_1 ?_|(refine zh (fun hc=>?_) (fun hc=>?_)<;>try simp only [yL] at hc))
 refine zc0 (one_of (nan_ok _)) fun r1 H1 hq=>?_
 obtain ⟨rfl,rfl⟩:=hq
 repeat' (first|refine zz1 @g99.eq_1 ?_|(refine zh (fun hc=>?_) (fun hc=>?_)<;>try simp only [yL] at hc))
 refine zc0 (one_of (nan_ok _)) fun r1 H1 hq=>?_
 obtain ⟨rfl,rfl⟩:=hq
 repeat' (first|refine zz1 @g99.eq_1 ?_|(refine zh (fun hc=>?_) (fun hc=>?_)<;>try simp only [yL] at hc))
 case refine_1=>rw [if_pos hc] at hPost;exact hPost _
 case refine_2.refine_1=>rw [if_neg (by omega),if_pos hc] at hPost;exact hPost _
 rw [if_neg (by omega),if_neg (by omega)] at hPost;exact hPost _
theorem or_ok {H:GHeap} {v:Value} {a b:Int} (hv:GRd H 1 v 2 (ints .i64 [a,b])):
 ∃ r H',gev G 98 [v] H=some (r,H')∧(r=.int .i64 (if a=0 then b else a)∧H'=H):=by
 refine gev_GW (f:=98) rfl fun Post hPost=>?_
 have hsl:=hv.isSl
 have e0:H.rd (blk v) (ofs v)=some (.int .i64 a):=hv.rd (c:=0) (by simp [ints])
 have e1:H.rd (blk v) (ofs v+1)=some (.int .i64 b):=hv.rd (c:=1) (by simp [ints])
 simp only [frameOf,Nat.reduceAdd]
 repeat' (first|refine zz2 @g98.eq_1 hsl.len ?_|(refine zh (fun hc=>?_) (fun hc=>?_)<;>try simp only [yL] at hc))
 refine GW_loop (fun k fr H1=>∃ j:Nat,k=2 - j∧j≤2∧fr.get 3=some (.int .i64 0)∧fr.get 6=some (v)∧fr.get 7=some (.int .i64 2)∧fr.get 8=some (.int .i64 j)∧H1=H∧(1≤j→a=0)∧(2≤j→b=0)) ?_ 2 ?_
 case refine_2=>
  refine ⟨0,by omega,by omega,?_⟩
  simp only [↓yG,Nat.reduceEqDiff,↓reduceIte,Int.natCast_add,Int.cast_ofNat_Int,Int.natCast_zero,true_and,and_true,Option.some.injEq,Value.int.injEq]
  exact ⟨fun h=>absurd h (by decide),fun h=>absurd h (by decide)⟩
 rintro k fr H1 ⟨j,rfl,hj,f3,f6,f7,f8,rfl,ha,hb⟩ J hJ
 by_cases hj1:j < 2
 ·by_cases hj0:j=0
  ·subst hj0
   repeat' (first|(exfalso;omega)|refine zz9 @g98.eq_1 @f3 @f6 @f7 @f8 hsl.ix @Nat.zero_mul @Nat.add_zero @e0 ?_|(refine zh (fun hc=>?_) (fun hc=>?_)<;>try simp only [yL] at hc))
   case pos.refine_1=>exact hPost _ _ ⟨by rw [if_neg hc],rfl⟩
   refine hJ _ _ ⟨1,by omega,1,rfl,by omega,?_⟩
   simp only [↓yG,Nat.reduceEqDiff,↓reduceIte,Int.natCast_add,Int.cast_ofNat_Int,Int.natCast_zero,true_and,and_true,Option.some.injEq,Value.int.injEq,f3,f6,f7]
   exact ⟨rfl,fun _=>hc,fun h=>absurd h (by decide)⟩
  ·obtain rfl:j=1:=by omega
   have ha:=ha (by omega)
   repeat' (first|(exfalso;omega)|refine zz8 @g98.eq_1 @f3 @f6 @f7 @f8 hsl.ix @Nat.one_mul @e1 ?_|(refine zh (fun hc=>?_) (fun hc=>?_)<;>try simp only [yL] at hc))
   case neg.refine_1=>exact hPost _ _ ⟨by rw [if_pos ha],rfl⟩
   refine hJ _ _ ⟨0,by omega,2,rfl,by omega,?_⟩
   simp only [↓yG,Nat.reduceEqDiff,↓reduceIte,Int.natCast_add,Int.cast_ofNat_Int,Int.natCast_zero,true_and,and_true,Option.some.injEq,Value.int.injEq,f3,f6,f7]
   exact ⟨rfl,fun _=>ha,fun _=>hc⟩
 ·obtain rfl:j=2:=by omega
  repeat' (first|(exfalso;omega)|refine zz5 @g98.eq_1 @f3 @f6 @f7 @f8 ?_|(refine zh (fun hc=>?_) (fun hc=>?_)<;>try simp only [yL] at hc))
  exact hPost _ _ ⟨by rw [if_pos (ha (by omega)),hb (by omega)],rfl⟩
theorem evC_0 (e:Ev):(evC e)[0]? =some (.int .i64 e.id):=rfl
theorem evC_1 (e:Ev):(evC e)[1]? =some (.int .i64 e.i):=rfl
theorem evC_2 (e:Ev):(evC e)[2]? =some (.int .i64 e.o):=rfl
theorem evC_3 (e:Ev):(evC e)[3]? =some (.string (strB e.rg)):=rfl
theorem evC_4 (e:Ev):(evC e)[4]? =some (.int .u8 e.kd):=rfl
theorem evC_5 (e:Ev):(evC e)[5]? =some (.string (strB e.sp)):=rfl
theorem evC_6 (e:Ev):(evC e)[6]? =some e.v:=rfl
theorem ev_cells (e:Ev):(evV e).cells.toList=evC e:=rfl
theorem evC_flat {e:Ev} (h:flatV e.v=true):(evC e).all flatV=true:=by simp [evC,flatV_int,flatV_str,h]
theorem ev_cflat {e:Ev} (h:flatV e.v=true):(evV e).cells.all flatV=true:=by rw [← Array.all_toList];exact evC_flat h
theorem gsetn_ev {cs:List Value} {e:Ev} (h:cs.length=7) (hf:flatV e.v=true):gsetn cs 0 7 (evV e)=some (evC e):=gsetn_all h rfl (by simp [flatV_int,flatV_str,hf])
theorem rdn_ev {H:GHeap} {j:Nat} {e:Ev} {u:Nat} {b:Bool} (h:H.len=j):(H.add (some (.cells (evC e) u b))).rdn j 0 7=some (evV e):=rdn_add_all h rfl
theorem rdn_evp {H:GHeap} {j:Nat} {e:Ev} {u:Nat} {b:Bool}:(H.put j (.cells (evC e) u b)).rdn j 0 7=some (evV e):=rdn_put_all rfl
theorem rdn_ev2 {H:GHeap} {j:Nat} {e:Ev} {u:Nat} {b:Bool} (h:H.len=j):(H.add (some (.cells (evC e) u b))).rdn j 1 2=some (s2 e.i e.o):=by
 simp only [GHeap.rdn,cs_add_eq h];rfl
theorem RE:type_of% (And.intro (And.intro (And.intro @evC_0 (And.intro @evC_1 @evC_2)) (And.intro @evC_3 (And.intro @evC_4 @evC_5))) (And.intro (And.intro @evC_6 (And.intro @ev_cells @rdn_ev)) (And.intro @rdn_evp @rdn_ev2))):=⟨⟨⟨@evC_0,⟨@evC_1,@evC_2⟩⟩,⟨@evC_3,⟨@evC_4,@evC_5⟩⟩⟩,⟨⟨@evC_6,⟨@ev_cells,@rdn_ev⟩⟩,⟨@rdn_evp,@rdn_ev2⟩⟩⟩
theorem cmp_less {a b:Ev}:(if cmpI a.i b.i=0 then cmpI a.id b.id else cmpI a.i b.i) < 0↔lessE a b:=by
 unfold cmpI lessE
 (repeat' split)<;>omega
instance (a b:Ev):Decidable (lessE a b):=by unfold lessE;exact inferInstance
theorem less_ok {H:GHeap} (hw:H.wf) {a b:Ev} (ha:flatV a.v=true) (hb:flatV b.v=true):
 ∃ r H',gev G 62 [evV a,evV b] H=some (r,H')∧(r=.bool (decide (lessE a b))∧Same H H'):=by
 refine gev_GW (f:=62) rfl fun Post hPost=>?_
 have hlim:=hw.1
 have fa:=ev_cflat ha
 have fb:=ev_cflat hb
 simp only [frameOf,Nat.reduceAdd]
 repeat' (first|refine zz4 @g62.eq_1 @RE @fa @fb ?_|(refine zh (fun hc=>?_) (fun hc=>?_)<;>try simp only [yL] at hc))
 have hS:Same H ((H.add (some (.cells (evC a) 0 true))).add (some (.cells (evC b) 0 true))):=((Same.refl hw).add _).add _
 refine zm0 (one_of (cmp_ok _)) fun r1 H1 hq=>?_
 obtain ⟨rfl,rfl⟩:=hq
 rw [updown]
 repeat' (first|refine zz2 @g62.eq_1 @RE ?_|(refine zh (fun hc=>?_) (fun hc=>?_)<;>try simp only [yL] at hc))
 refine zm0 (one_of (cmp_ok _)) fun r1 H1 hq=>?_
 obtain ⟨rfl,rfl⟩:=hq
 rw [updown]
 repeat' (first|refine zz2 @g62.eq_1 @RE ?_|(refine zh (fun hc=>?_) (fun hc=>?_)<;>try simp only [yL] at hc))
 have hO:=OS.made' (s:=1) (u:=1) (n:=2) (cs:=ints .i64 [cmpI a.i b.i,cmpI a.id b.id]) hS rfl
 have hrd:=hO.rd
 have hup:GRd (((H.add (some (.cells (evC a) 0 true))).add (some (.cells (evC b) 0 true))).add (some (.cells (ints .i64 [cmpI a.i b.i,cmpI a.id b.id]) 1 true))).up 1 (.slice (some ⟨((H.add (some (.cells (evC a) 0 true))).add (some (.cells (evC b) 0 true))).len,0,none⟩) 2 3) 2 (ints .i64 [cmpI a.i b.i,cmpI a.id b.id]):=hrd
 refine zm0 (or_ok hup) fun r3 H3 hq=>?_
 obtain ⟨rfl,rfl⟩:=hq
 erw [updown]
 have hlt:=cmp_less (a:=a) (b:=b)
 repeat' (first|refine zz2 @g62.eq_1 @RE ?_|(refine zh (fun hc=>?_) (fun hc=>?_)<;>try simp only [yL] at hc))
 refine hPost _ _ ⟨?_,hO.same⟩
 exact congrArg Value.bool (decide_eq_decide.2 hlt)
end Go.Gh
end
section
namespace Go.Gh
set_option linter.unusedSimpArgs false
set_option linter.unusedVariables false
set_option maxHeartbeats 4000000
open Go.RowKit
set_option maxRecDepth 4000
theorem cont_ok {l:List UInt8} (hl:l.length≤4294967280) {B:ByteArray} (hB:B=strB [32,32]) (H:GHeap):gev G 167 [.string (strB l),.string B] H=some (.bool (Go.Lib.contains l [32,32]),H):=by
 subst hB
 refine gev_lib (f:=167) rfl rfl ?_ rfl
 simp only [runContains]
 rw [if_pos (by rw [strB_size];omega),strB_data,strB_data]
theorem byte_eq {b:UInt8} {n:Nat} (hn:n < 256):(((b.toNat:Nat):Int)=(n:Int))=(b=UInt8.ofNat n):=by
 apply propext
 constructor
 ·intro h
  have:b.toNat=n:=by omega
  rw [← this];simp
 ·intro h;rw [h];simp [Nat.mod_eq_of_lt hn]
theorem by32 {b:UInt8}:(((b.toNat:Nat):Int)=32)=(b=32):=byte_eq (n:=32) (by decide)
theorem strB_last {l:List UInt8} {k:IntKind} (h:0 < l.length):gix none (.string (strB l)) (.int k ((l.length:Int) - 1))=some (.int .u8 (l[l.length - 1]!.toNat:Nat)):=by
 have:=strB_at (l:=l) (k:=k) (j:=l.length - 1) (by omega)
 rwa [show ((l.length - 1:Nat):Int)=(l.length:Int) - 1 by omega] at this
theorem smR_tot {l:List SR} (h:smR l):tot l≤l.length * 1048576:=tot_bound fun x hx=>(h.2 x hx).1
theorem rowE_ok {H:GHeap} (hw:H.wf) {v:Value} {l:List SR} (hv:RR H v l) (hs:smR l):
 ∃ r H',gev G 120 [rowV v] H=some (r,H')∧(ErrIs r (rowOk l)∧Same H H'):=by
 refine gev_GW (f:=120) rfl fun Post hPost=>?_
 have hlim:=hw.1
 have hf:=hv.flat
 have htot:=smR_tot hs
 have hlen:=hs.1
 have ht2:tot l≤1099511627776:=Nat.le_trans htot (Nat.mul_le_mul_right 1048576 hlen)
 have hbd:∀ {n:Int} {H'},n≠0→Same H H'→¬ rowOk l→Post (.int .i64 n) H':=fun hn hS h=>hPost _ _ ⟨ErrIs.no hn h,hS⟩
 simp only [frameOf,Nat.reduceAdd]
 repeat' (first|refine zz5 @g120.eq_1 @rowV_eq @agg_all @agg_list @hf ?_|(refine zh (fun hc=>?_) (fun hc=>?_)<;>try simp only [yL] at hc))
 have hS1:Same H (H.add (some (.cells [v] 0 true))):=(Same.refl hw).add _
 have hv1:∀ {H2},Same H H2→RR H2 v l:=fun h=>hv.later hw h
 have hr1:(H.add (some (.cells [v] 0 true))).rdn H.len 0 1=some (rowV v):=rdn_add_all rfl rfl
 have hl1:H.len < (H.add (some (.cells [v] 0 true))).len:=by rw [len_add];omega
 generalize H.add (some (.cells [v] 0 true))=H1 at *
 refine zc0 (check_ok hS1.wf (hv1 hS1) (by omega) (fun x hx=>⟨by have:=(hs.2 x hx).1;omega,by have:=(hs.2 x hx).2;omega⟩)) fun r2 H2 hq=>?_
 obtain ⟨rfl,hS2⟩:=hq
 have hS12:=hS1.trans hS2
 have hr2:H2.rdn H.len 0 1=some (rowV v):=(hS2.rdn hl1).trans hr1
 have hl2:H.len < H2.len:=Nat.lt_of_lt_of_le hl1 hS2.len
 repeat' (first|refine zz2 @g120.eq_1 @hr2 ?_|(refine zh (fun hc=>?_) (fun hc=>?_)<;>try simp only [yL] at hc))
 case refine_1=>exact hbd hc hS12 fun h=>hc h.1
 have hc0:checkF l=0:=by omega
 have hl16:l.length≤16:=by
  refine Nat.not_lt.1 fun h=>?_
  unfold checkF at hc0
  rw [if_pos h] at hc0
  cases hc0
 have ht3:tot l≤16777216:=Nat.le_trans htot (Nat.mul_le_mul_right 1048576 hl16)
 refine zc1 @hr2 (plain_ok hS12.wf (hv1 hS12) (by omega) (by omega)) fun r3 H3 hq=>?_
 obtain ⟨rfl,hS3⟩:=hq
 have hS13:=hS12.trans hS3
 have hr3:H3.rdn H.len 0 1=some (rowV v):=(hS3.rdn hl2).trans hr2
 have hpl:=plainF_len l
 have hrow:rowOk l=(checkF l=0∧plainF l≠[]∧(plainF l)[0]!≠32∧(plainF l)[(plainF l).length - 1]!≠32∧Go.Lib.contains (plainF l) [32,32]=false∧lenF l≤32):=rfl
 rw [hrow] at hbd hPost
 generalize plainF l=p at *
 have hps:=strB_size p
 by_cases hp0:p=[]
 ·have d0:decide (p=[])=true:=decide_eq_true hp0
  repeat' (first|refine zz3 @g120.eq_1 @gb_eqE @d0 ?_|(refine zh (fun hc=>?_) (fun hc=>?_)<;>try simp only [yL] at hc))
  exact hbd (by decide) hS13 fun h=>h.2.1 hp0
 have hpos:=List.length_pos_iff.2 hp0
 have d0:decide (p=[])=false:=decide_eq_false hp0
 have e0:=fun k=>strB_at0 (k:=k) hpos
 have e1:=fun k=>strB_last (k:=k) hpos
 repeat' (first|refine zz7 @g120.eq_1 @gb_eqE @d0 @e0 @e1 @hps @by32 ?_|(refine zh (fun hc=>?_) (fun hc=>?_)<;>try simp only [yL] at hc))
 case neg.refine_1=>exact hbd (by decide) hS13 fun h=>h.2.2.1 hc
 case neg.refine_2.refine_1=>exact hbd (by decide) hS13 fun h=>h.2.2.2.1 hc
 refine zc0 (one_of (cont_ok (l:=p) (B:=⟨#[32,32]⟩) (by omega) rfl _)) fun r4 H4 hq=>?_
 obtain ⟨rfl,rfl⟩:=hq
 cases hcn:Go.Lib.contains p [32,32] with
 |true=>
  repeat' (first|refine zz1 @g120.eq_1 ?_|(refine zh (fun hc=>?_) (fun hc=>?_)<;>try simp only [yL] at hc))
  exact hbd (by decide) hS13 fun h=>by have:=h.2.2.2.2.1;rw [hcn] at this;cases this
 |false=>
  repeat' (first|refine zz2 @g120.eq_1 @hr3 ?_|(refine zh (fun hc=>?_) (fun hc=>?_)<;>try simp only [yL] at hc))
  refine zc1 @hr3 (Len_ok hS13.wf (hv1 hS13) (by omega) (by omega)) fun r5 H5 hq=>?_
  obtain ⟨rfl,hS5⟩:=hq
  repeat' (first|refine zz1 @g120.eq_1 ?_|(refine zh (fun hc=>?_) (fun hc=>?_)<;>try simp only [yL] at hc))
  case neg.refine_2.refine_2.false.refine_1=>exact hbd (by decide) (hS13.trans hS5) fun h=>by have:=h.2.2.2.2.2;omega
  exact hPost _ _ ⟨ErrIs.yes ⟨hc0,hp0,by assumption,by assumption,hcn,by omega⟩,hS13.trans hS5⟩
theorem lenF_le {l:List SR} (h:smR l):-1≤lenF l∧lenF l≤1099511627776:=by
 have h1:=smR_tot h
 have h2:=Nat.mul_le_mul_right 1048576 h.1
 have h3:=cntL_le l
 unfold lenF
 split<;>omega
theorem lens_ok {H:GHeap} (hw:H.wf) {ε:Ev} (hT:TR H ε.v ε.L) (hl:ε.L.length≤1048576) (hs:∀ x ∈ ε.L,smR x.2):
 ∃ r H',gev G 104 [evV ε] H=some (r,H')∧OS 1 1 H H' r ε.L.length (ints .i64 (ε.rows.map lenF)):=by
 refine gev_GW (f:=104) rfl fun Post hPost=>?_
 have hlim:=hw.1
 have hsl:=hT.isSl
 have fe:=ev_cflat hT.rd.flat
 simp only [frameOf,Nat.reduceAdd]
 repeat' (first|refine zz4 @g104.eq_1 @RE @fe hsl.len ?_|(refine zh (fun hc=>?_) (fun hc=>?_)<;>try simp only [yL] at hc))
 have hSb:Same H (H.add (some (.cells (evC ε) 0 true))):=(Same.refl hw).add _
 refine GW_loop (fun k fr H1=>∃ (j:Nat) (s:Value),k=ε.L.length - j∧j≤ε.L.length∧fr.get 3=some (s)∧fr.get 7=some (ε.v)∧fr.get 8=some (.int .i64 ε.L.length)∧fr.get 9=some (.int .i64 j)∧OS 1 1 H H1 s j (ints .i64 ((ε.rows.map lenF).take j))) ?_ ε.L.length ?_
 case refine_2=>
  refine ⟨0,.slice none 0 0,by omega,by omega,?_⟩
  simp only [↓yG,Nat.reduceEqDiff,↓reduceIte,Int.natCast_add,Int.cast_ofNat_Int,Int.natCast_zero,true_and,and_true,Option.some.injEq,Value.int.injEq]
  exact OS.nil hSb
 rintro k fr H1 ⟨j,s,rfl,hj,f3,f7,f8,f9,hO⟩ J hJ
 have hS:=hO.same
 have hw1:=hS.wf
 have hlim1:=hw1.1
 by_cases hj1:j < ε.L.length
 ·obtain ⟨e1,_,r1⟩:=(hT.later hw hS).row hj1
  have hsm:=hs _ (bang_mem hj1)
  have htk:(ε.rows.map lenF).take (j+1)=(ε.rows.map lenF).take j ++ [lenF ε.L[j]!.2]:=by
   rw [List.take_succ_eq_append_getElem (by simpa [Ev.rows] using hj1)]
   simp [Ev.rows,getElem!_pos ε.L j hj1]
  have hrow:∀ x,rowV x=.agg [x].toArray:=fun _=>rfl
  generalize ε.L[j]!.1=w0 at *
  generalize ε.L[j]!.2=l0 at *
  have hf:=r1.flat
  have hst:=gst_add hw1 (n:=1) (z:=[.slice none 0 0]) (u:=0) (vs:=#[w0]) rfl rfl (by simp [hf])
  have hle:=lenF_le hsm
  have htot:=smR_tot hsm
  have hlen:=hsm.1
  have ht2:tot l0≤1099511627776:=Nat.le_trans htot (Nat.mul_le_mul_right 1048576 hlen)
  repeat' (first|(exfalso;omega)|refine zz9 @g104.eq_1 @f3 @f7 @f8 @f9 hsl.ix @e1 @hrow @hst ?_|(refine zh (fun hc=>?_) (fun hc=>?_)<;>try simp only [yL] at hc))
  have hS12:Same H1 ((H1.add (some (.cells [.slice none 0 0] 0 true))).put H1.len (.cells [w0] 0 true)):=(Same.refl hw1).new _ _
  generalize (H1.add (some (.cells [.slice none 0 0] 0 true))).put H1.len (.cells [w0] 0 true)=H2 at *
  refine zc4 @f3 @f7 @f8 @f9 (Len_ok (hS.trans hS12).wf (r1.later hw1 hS12) (by omega) (by omega)) fun r3 H3 hq=>?_
  obtain ⟨rfl,hS3⟩:=hq
  repeat' (first|(exfalso;omega)|refine zz5 @g104.eq_1 @f3 @f7 @f8 @f9 ?_|(refine zh (fun hc=>?_) (fun hc=>?_)<;>try simp only [yL] at hc))
  have hO3:=(hO.later hS12).later hS3
  refine Gw_s fun K' hK'=>?_
  simp (disch:=first|exact zd|fail) only [↓yS,yT,↓reduceIte,Nat.reduceEqDiff,Nat.reduceAdd,Nat.reduceMul,reduceCtorEq,Int.reduceToNat,f3,f7,f8,f9]
  obtain ⟨v',H4,e,hO4,_⟩:=hO3.app1 (by decide) (by decide) (news:=ints .i64 ((List.replicate 1 0).set 0 (lenF l0))) rfl (b:=8) (by omega) (by omega)
  refine G1_eq e (hK' _ _ ?_)
  clear hK' K' e
  repeat' (first|(exfalso;omega)|refine zz5 @g104.eq_1 @f3 @f7 @f8 @f9 ?_|(refine zh (fun hc=>?_) (fun hc=>?_)<;>try simp only [yL] at hc))
  refine hJ _ _ ⟨ε.L.length - (j+1),by omega,j+1,v',rfl,by omega,?_⟩
  simp only [↓yG,Nat.reduceEqDiff,↓reduceIte,Int.natCast_add,Int.cast_ofNat_Int,Int.natCast_zero,true_and,and_true,Option.some.injEq,Value.int.injEq,f7,f8]
  have e4:ints .i64 ((ε.rows.map lenF).take (j+1))=ints .i64 ((ε.rows.map lenF).take j) ++ ints .i64 ((List.replicate 1 0).set 0 (lenF l0)):=by
   rw [htk];simp [ints]
  rw [e4];exact hO4
 ·obtain rfl:j=ε.L.length:=by omega
  rw [List.take_of_length_le (by simp [Ev.rows])] at hO
  repeat' (first|(exfalso;omega)|refine zz5 @g104.eq_1 @f3 @f7 @f8 @f9 ?_|(refine zh (fun hc=>?_) (fun hc=>?_)<;>try simp only [yL] at hc))
  exact hPost _ _ hO
theorem lenS_c {n a:Int} {r:List Int}:lenS (n :: r) a=if n < 0 then -1 else lenS r (a+n):=rfl
theorem lenE_ok {H:GHeap} (hw:H.wf) {e:Ev} (hT:TR H e.v e.L) (hl:e.L.length≤1048576) (hs:∀ x ∈ e.L,smR x.2):
 ∃ r H',gev G 168 [evV e] H=some (r,H')∧(r=.int .i64 (lenE e.rows)∧Same H H'):=by
 refine gev_GW (f:=168) rfl fun Post hPost=>?_
 have hlim:=hw.1
 have hsl:=hT.isSl
 have fe:=ev_cflat hT.rd.flat
 have hrl:e.rows.length=e.L.length:=by simp [Ev.rows]
 simp only [frameOf,Nat.reduceAdd]
 have hmx:(if (0:Int) > (e.L.length:Int) - 1 then (0:Int) else (e.L.length:Int) - 1)=max ((e.L.length:Int) - 1) 0:=by split<;>omega
 repeat' (first|refine zz4 @g168.eq_1 @RE @fe hsl.len ?_|(refine zh (fun hc=>?_) (fun hc=>?_)<;>try simp only [yL] at hc))
 have hSb:Same H (H.add (some (.cells (evC e) 0 true))):=(Same.refl hw).add _
 refine zc0 (lens_ok hSb.wf (hT.later hw hSb) hl hs) fun r2 H2 hO=>?_
 have hS2:=hSb.trans hO.same
 have hsl2:=hO.rd.isSl
 have hN:∀ n ∈ e.rows.map lenF,-1≤n∧n≤1099511627776:=by
  intro n hn
  simp only [Ev.rows,List.map_map,List.mem_map] at hn
  obtain ⟨x,hx,rfl⟩:=hn
  exact lenF_le (hs x hx)
 have hPost2:∀ {n:Int} {H'},Same H H'→n=lenS (e.rows.map lenF) (max ((e.L.length:Int) - 1) 0)→Post (.int .i64 n) H':=fun h1 h2=>hPost _ _ ⟨by rw [h2,lenE,hrl],h1⟩
 have hNl:(e.rows.map lenF).length=e.L.length:=by simp [Ev.rows]
 have hrd:=hO.rd
 generalize e.rows.map lenF=N at *
 clear hPost hmx
 repeat' (first|refine zz2 @g168.eq_1 hsl2.len ?_|(refine zh (fun hc=>?_) (fun hc=>?_)<;>try simp only [yL] at hc))
 refine GW_loop (fun k fr H1=>∃ (j:Nat) (a:Int),k=N.length - j∧j≤N.length∧fr.get 3=some (.int .i64 a)∧fr.get 12=some (r2)∧fr.get 13=some (.int .i64 e.L.length)∧fr.get 14=some (.int .i64 j)∧H1=H2∧lenS N (max ((e.L.length:Int) - 1) 0)=lenS (N.drop j) a∧(0≤a∧a≤1048576+j * 1099511627776)) ?_ N.length ?_
 case refine_2=>
  refine ⟨0,max ((e.L.length:Int) - 1) 0,by omega,by omega,?_⟩
  simp only [↓yG,Nat.reduceEqDiff,↓reduceIte,Int.natCast_add,Int.cast_ofNat_Int,Int.natCast_zero,true_and,and_true,Option.some.injEq,Value.int.injEq]
  exact ⟨rfl,by omega⟩
 rintro k fr H1 ⟨j,a,rfl,hj,f3,f12,f13,f14,rfl,hL,ha⟩ J hJ
 by_cases hj1:j < N.length
 ·have e1:H1.rd (blk r2) (ofs r2+j)=some (.int .i64 N[j]!):=by rw [hrd.rd (by rw [ints_length];exact hj1),ints_at hj1]
  have hb:=hN _ (bang_mem hj1)
  rw [List.drop_eq_getElem_cons hj1,← getElem!_pos N j hj1] at hL
  generalize N[j]! =n at *
  rw [lenS_c] at hL
  repeat' (first|(exfalso;omega)|refine zz8 @g168.eq_1 @f3 @f12 @f13 @f14 hsl2.ix @Nat.mul_one @e1 ?_|(refine zh (fun hc=>?_) (fun hc=>?_)<;>try simp only [yL] at hc))
  case pos.refine_1=>
   rw [if_pos hc] at hL
   exact hPost2 hS2 hL.symm
  rw [if_neg (by omega)] at hL
  refine hJ _ _ ⟨N.length - (j+1),by omega,j+1,a+n,rfl,by omega,?_⟩
  simp only [↓yG,Nat.reduceEqDiff,↓reduceIte,Int.natCast_add,Int.cast_ofNat_Int,Int.natCast_zero,true_and,and_true,Option.some.injEq,Value.int.injEq,f12,f13]
  exact ⟨hL,by omega,by omega⟩
 ·obtain rfl:j=N.length:=by omega
  rw [List.drop_length] at hL
  repeat' (first|(exfalso;omega)|refine zz5 @g168.eq_1 @f3 @f12 @f13 @f14 ?_|(refine zh (fun hc=>?_) (fun hc=>?_)<;>try simp only [yL] at hc))
  exact hPost2 hS2 hL.symm
end Go.Gh
end
section
namespace Go.Gh
set_option linter.unusedSimpArgs false
set_option linter.unusedVariables false
set_option maxHeartbeats 4000000
open Go.RowKit
set_option maxRecDepth 4000
theorem evCheck_ok {H:GHeap} (hw:H.wf) {e:Ev} (hT:TR H e.v e.L) (hs:smE e) {v:Value} {R:List Rg} (hR:RgR H v R) (hRl:R.length≤1048576) (hRs:∀ r ∈ R,smG r):
 ∃ r H',gev G 61 [evV e,v] H=some (r,H')∧(ErrIs r (evOk R e)∧Same H H'):=by
 refine gev_GW (f:=61) rfl fun Post hPost=>?_
 have hlim:=hw.1
 have hsl:=hT.isSl
 have fe:=ev_cflat hT.rd.flat
 obtain ⟨hs1,hs2,hs3,hs4,hs5⟩:=hs
 have hrl:e.rows.length=e.L.length:=by simp [Ev.rows]
 have hbd:∀ {n:Int} {H'},n≠0→Same H H'→¬ evOk R e→Post (.int .i64 n) H':=fun hn hS h=>hPost _ _ ⟨ErrIs.no hn h,hS⟩
 simp only [frameOf,Nat.reduceAdd]
 repeat' (first|refine zz4 @g61.eq_1 @RE @RG @fe ?_|(refine zh (fun hc=>?_) (fun hc=>?_)<;>try simp only [yL] at hc))
 have hS1:Same H (H.add (some (.cells (evC e) 0 true))):=(Same.refl hw).add _
 refine zc1 @RE (find_ok hS1.wf (GArg1.same hR hw hS1) hRl e.rg) fun r2 H2 hq=>?_
 obtain ⟨rfl,hS2⟩:=hq
 have hS12:=hS1.trans hS2
 have hw2:=hS12.wf
 have hlim2:=hw2.1
 have hl1:H.len < (H.add (some (.cells (evC e) 0 true))).len:=by rw [len_add];omega
 have hl2:H.len < H2.len:=Nat.lt_of_lt_of_le hl1 hS2.len
 have hfs:=findV_sm (n:=e.rg) hRs
 have hfv:findV R e.rg=match findR R e.rg with
  |some r=>(r,true)
  |none=>(⟨[],0,0,0,0,0,false⟩,false):=rfl
 have hF:∀ r,findR R e.rg=some r→(findV R e.rg).1=r∧(findV R e.rg).2=true:=fun r h=>by rw [hfv,h];exact ⟨rfl,rfl⟩
 have hF0:(findV R e.rg).2=true→findR R e.rg=some (findV R e.rg).1:=fun h=>by
  rw [hfv] at h ⊢
  cases hr:findR R e.rg with
  |none=>rw [hr] at h;cases h
  |some r=>rfl
 clear hfv
 generalize findV R e.rg=q at *
 obtain ⟨r,fnd⟩:=q
 simp only at hF hF0 hfs
 have a0:∀ c,H2.rd H.len c=(evC e)[c]?:=fun c=>by rw [hS2.rd hl1,rd_add_eq rfl]
 have a12:H2.rdn H.len 1 2=some (s2 e.i e.o):=by rw [hS2.rdn hl1,rdn_ev2 rfl]
 have a7:H2.rdn H.len 0 7=some (evV e):=by rw [hS2.rdn hl1,rdn_ev rfl]
 obtain ⟨H3,hH3⟩:∃ H3,H3=(H2.add (some (.cells [.string ⟨#[]⟩,.int .i64 0,.int .i64 0,.int .i64 0,.int .i64 0,.int .u8 0,.bool false] 0 true))).put H2.len (.cells (rgC r) 0 true):=⟨_,rfl⟩
 have hS23:Same H2 H3:=hH3 ▸ (Same.refl hw2).new _ _
 have hl3:H.len < H3.len:=Nat.lt_of_lt_of_le hl2 hS23.len
 have hl23:H2.len < H3.len:=by rw [hH3];simp only [len_put,len_add];omega
 have hS3:=hS12.trans hS23
 have b7:H3.rdn H2.len 0 7=some (rgV r):=by rw [hH3,rdn_rgp]
 repeat' (first|refine zz4 @g61.eq_1 @RE @RG hH3.symm ?_|(refine zh (fun hc=>?_) (fun hc=>?_)<;>try simp only [yL] at hc))
 have b0:∀ c,H3.rd H.len c=(evC e)[c]?:=fun c=>by rw [hS23.rd hl2];exact a0 c
 have b12:H3.rdn H.len 1 2=some (s2 e.i e.o):=by rw [hS23.rdn hl2];exact a12
 have b17:H3.rdn H.len 0 7=some (evV e):=by rw [hS23.rdn hl2];exact a7
 have c0:=b0 0
 have c3:=b0 3
 have c4:=b0 4
 have c5:=b0 5
 have c6:=b0 6
 rw [evC_0] at c0
 rw [evC_4] at c4
 rw [evC_5] at c5
 rw [evC_6] at c6
 clear c3
 by_cases hid:1≤e.id∧e.id≤1099511627776
 case neg=>
  repeat' (first|refine zz2 @g61.eq_1 @c0 ?_|(refine zh (fun hc=>?_) (fun hc=>?_)<;>try simp only [yL] at hc))
  all_goals first|exact hbd (by decide) hS3 fun h=>hid h.1|(exfalso;omega)
 have d1:decide (e.id < 1)=false:=decide_eq_false (by omega)
 have d2:decide ((1099511627776:Int) < e.id)=false:=decide_eq_false (by omega)
 repeat' (first|refine zz5 @g61.eq_1 @c0 @d1 @d2 @b12 ?_|(refine zh (fun hc=>?_) (fun hc=>?_)<;>try simp only [yL] at hc))
 refine zc1 @b12 (one_of (spans_ok _)) fun r4 H4 hq=>?_
 obtain ⟨rfl,rfl⟩:=hq
 by_cases hsp:0≤e.i∧e.i < e.o∧e.o≤5184000
 case neg=>
  have d3:decide (0≤e.i∧e.i < e.o∧e.o≤5184000)=false:=decide_eq_false hsp
  repeat' (first|refine zz2 @g61.eq_1 @d3 ?_|(refine zh (fun hc=>?_) (fun hc=>?_)<;>try simp only [yL] at hc))
  exact hbd (by decide) hS3 fun h=>hsp h.2.1
 have d3:decide (0≤e.i∧e.i < e.o∧e.o≤5184000)=true:=decide_eq_true hsp
 cases fnd with
 |false=>
  repeat' (first|refine zz2 @g61.eq_1 @d3 ?_|(refine zh (fun hc=>?_) (fun hc=>?_)<;>try simp only [yL] at hc))
  exact hbd (by decide) hS3 fun h=>by
   obtain ⟨r',h1,_⟩:=h.2.2.2.2.2.2
   have:=(hF r' h1).2;cases this
 |true=>
 have hfr:=hF0 rfl
 repeat' (first|refine zz3 @g61.eq_1 @d3 @c4 ?_|(refine zh (fun hc=>?_) (fun hc=>?_)<;>try simp only [yL] at hc))
 refine zc1 @c4 (one_of (kind_ok hs3 _)) fun r4 H4 hq=>?_
 obtain ⟨rfl,rfl⟩:=hq
 by_cases hk:1≤e.kd∧e.kd≤4
 case neg=>
  have d4:decide (kndB e.kd=[])=true:=decide_eq_true ((kndB_nil _).2 hk)
  repeat' (first|refine zz3 @g61.eq_1 @gb_eqE @d4 ?_|(refine zh (fun hc=>?_) (fun hc=>?_)<;>try simp only [yL] at hc))
  exact hbd (by decide) hS3 fun h=>hk h.2.2.1
 have d4:decide (kndB e.kd=[])=false:=decide_eq_false fun h=>(kndB_nil _).1 h hk
 by_cases hsk:e.sp=[]∨nameF e.sp=true
 case neg=>
  have d5:decide (¬ e.sp=[])=true:=decide_eq_true fun h=>hsk (.inl h)
  have d6:nameF e.sp=false:=Bool.eq_false_iff.2 fun h=>hsk (.inr h)
  repeat' (first|refine zz6 @g61.eq_1 @gb_eqE @gb_neE @d4 @c5 @d5 ?_|(refine zh (fun hc=>?_) (fun hc=>?_)<;>try simp only [yL] at hc))
  refine zc1 @c5 (one_of (name_ok hs2 _)) fun r4 H4 hq=>?_
  obtain ⟨rfl,rfl⟩:=hq
  repeat' (first|refine zz2 @g61.eq_1 @d6 ?_|(refine zh (fun hc=>?_) (fun hc=>?_)<;>try simp only [yL] at hc))
  exact hbd (by decide) hS3 fun h=>hsk h.2.2.2.1
 by_cases hL:1≤e.L.length∧e.L.length≤4
 case neg=>
  by_cases hsp0:e.sp=[]
  ·have d5:decide (¬ e.sp=[])=false:=decide_eq_false fun h=>h hsp0
   repeat' (first|refine zz8 @g61.eq_1 @gb_eqE @gb_neE @d4 @c5 @d5 @c6 hsl.len ?_|(refine zh (fun hc=>?_) (fun hc=>?_)<;>try simp only [yL] at hc))
   all_goals first|exact hbd (by decide) hS3 fun h=>hL (by have:=h.2.2.2.2.1;rwa [hrl] at this)|(exfalso;omega)
  ·have d5:decide (¬ e.sp=[])=true:=decide_eq_true hsp0
   have d6:=hsk.resolve_left hsp0
   repeat' (first|refine zz6 @g61.eq_1 @gb_eqE @gb_neE @d4 @c5 @d5 ?_|(refine zh (fun hc=>?_) (fun hc=>?_)<;>try simp only [yL] at hc))
   refine zc1 @c5 (one_of (name_ok hs2 _)) fun r4 H4 hq=>?_
   obtain ⟨rfl,rfl⟩:=hq
   repeat' (first|refine zz4 @g61.eq_1 @d6 @c6 hsl.len ?_|(refine zh (fun hc=>?_) (fun hc=>?_)<;>try simp only [yL] at hc))
   all_goals first|exact hbd (by decide) hS3 fun h=>hL (by have:=h.2.2.2.2.1;rwa [hrl] at this)|(exfalso;omega)
 have d7:decide ((e.L.length:Int)=0)=false:=decide_eq_false (by omega)
 have d8:decide ((4:Int) < e.L.length)=false:=decide_eq_false (by omega)
 by_cases hsp0:e.sp=[]
 case' pos=>
  have d5:decide (¬ e.sp=[])=false:=decide_eq_false fun h=>h hsp0
  repeat' (first|refine zz10 @g61.eq_1 @gb_eqE @gb_neE @d4 @c5 @d5 @c6 hsl.len @d7 @d8 ?_|(refine zh (fun hc=>?_) (fun hc=>?_)<;>try simp only [yL] at hc))
 case' neg=>
  have d5:decide (¬ e.sp=[])=true:=decide_eq_true hsp0
  have d6:=hsk.resolve_left hsp0
  repeat' (first|refine zz6 @g61.eq_1 @gb_eqE @gb_neE @d4 @c5 @d5 ?_|(refine zh (fun hc=>?_) (fun hc=>?_)<;>try simp only [yL] at hc))
  refine zc1 @c5 (one_of (name_ok hs2 _)) fun r4 H4 hq=>?_
  obtain ⟨rfl,rfl⟩:=hq
  repeat' (first|refine zz6 @g61.eq_1 @d6 @c6 hsl.len @d7 @d8 ?_|(refine zh (fun hc=>?_) (fun hc=>?_)<;>try simp only [yL] at hc))
 all_goals
  clear d1 d2 d3 d4 d7 d8 c0 c4 c5 c6 b12
  refine GW_loop (fun k fr H5=>∃ j:Nat,k=e.L.length - j∧j≤e.L.length∧fr.get 2=some (.pointer (some ⟨H.len,0,none⟩))∧fr.get 5=some (.pointer (some ⟨H2.len,0,none⟩))∧fr.get 64=some (e.v)∧fr.get 65=some (.int .i64 e.L.length)∧fr.get 66=some (.int .i64 j)∧Same H4 H5∧∀ x ∈ e.L.take j,rowOk x.2) ?_ e.L.length ?_
  rotate_left
  ·refine ⟨0,by omega,by omega,?_⟩
   simp only [↓yG,Nat.reduceEqDiff,↓reduceIte,Int.natCast_add,Int.cast_ofNat_Int,Int.natCast_zero,true_and,and_true,Option.some.injEq,Value.int.injEq]
   exact ⟨Same.refl hS3.wf,fun x hx=>by simp at hx⟩
  rintro k fr H5 ⟨j,rfl,hj,f2,f5,f64,f65,f66,hS45,hall⟩ J hJ
  have hS5:=hS3.trans hS45
  have hw5:=hS5.wf
  have hlim5:=hw5.1
  by_cases hj1:j < e.L.length
  ·obtain ⟨e1,_,r1⟩:=(hT.later hw hS5).row hj1
   have hsm:=hs5 _ (bang_mem hj1)
   have hmem:e.L[j]!.2 ∈ e.rows:=List.mem_map.2 ⟨_,bang_mem hj1,rfl⟩
   have hnx:rowOk e.L[j]!.2→∀ x ∈ e.L.take (j+1),rowOk x.2:=fun h x hx=>by
    rw [List.take_succ_eq_append_getElem hj1,← getElem!_pos e.L j hj1] at hx
    rcases List.mem_append.1 hx with hx|hx
    ·exact hall x hx
    ·rw [List.mem_singleton.1 hx];exact h
   have hrow:∀ x,rowV x=.agg [x].toArray:=fun _=>rfl
   generalize e.L[j]!.1=w0 at *
   generalize e.L[j]!.2=l0 at *
   have hf:=r1.flat
   have hst:=gst_add hw5 (n:=1) (z:=[.slice none 0 0]) (u:=0) (vs:=#[w0]) rfl rfl (by simp [hf])
   repeat' (first|(exfalso;omega)|refine zz10 @g61.eq_1 @f2 @f5 @f64 @f65 @f66 hsl.ix @e1 @hrow @hst ?_|(refine zh (fun hc=>?_) (fun hc=>?_)<;>try simp only [yL] at hc))
   have hS56:Same H5 ((H5.add (some (.cells [.slice none 0 0] 0 true))).put H5.len (.cells [w0] 0 true)):=(Same.refl hw5).new _ _
   generalize (H5.add (some (.cells [.slice none 0 0] 0 true))).put H5.len (.cells [w0] 0 true)=H6 at *
   refine zc5 @f2 @f5 @f64 @f65 @f66 (rowE_ok (hS5.trans hS56).wf (r1.later hw5 hS56) hsm) fun r7 H7 hq=>?_
   obtain ⟨⟨n,rfl,hn⟩,hS7⟩:=hq
   have hS57:=hS56.trans hS7
   repeat' (first|(exfalso;omega)|refine zz6 @g61.eq_1 @f2 @f5 @f64 @f65 @f66 ?_|(refine zh (fun hc=>?_) (fun hc=>?_)<;>try simp only [yL] at hc))
   case refine_1=>exact hbd hc (hS5.trans hS57) fun h=>hc (hn.2 (h.2.2.2.2.2.1 _ hmem))
   refine hJ _ _ ⟨e.L.length - (j+1),by omega,j+1,rfl,by omega,?_⟩
   simp only [↓yG,Nat.reduceEqDiff,↓reduceIte,Int.natCast_add,Int.cast_ofNat_Int,Int.natCast_zero,true_and,and_true,Option.some.injEq,Value.int.injEq,f2,f5,f64,f65]
   exact ⟨hS45.trans hS57,hnx (hn.1 (by omega))⟩
  ·obtain rfl:j=e.L.length:=by omega
   rw [List.take_length] at hall
   have g7:H5.rdn H2.len 0 7=some (rgV r):=(hS45.rdn hl23).trans b7
   have h17:H5.rdn H.len 0 7=some (evV e):=(hS45.rdn hl3).trans b17
   repeat' (first|(exfalso;omega)|refine zz6 @g61.eq_1 @f2 @f5 @f64 @f65 @f66 ?_|(refine zh (fun hc=>?_) (fun hc=>?_)<;>try simp only [yL] at hc))
   repeat' (first|refine zz5 @g61.eq_1 @f2 @f5 @g7 @h17 ?_|(refine zh (fun hc=>?_) (fun hc=>?_)<;>try simp only [yL] at hc))
   refine zm0 (lens_ok (wf_up hw5) (hT.later hw hS5).up hs4 hs5) fun r6 H6 hO=>?_
   have hO6:=OS.down hw5 hO
   generalize H6.down H5.lim=H7 at *
   clear hO
   have hS7:=hS5.trans hO6.same
   repeat' (first|refine zz1 @g61.eq_1 ?_|(refine zh (fun hc=>?_) (fun hc=>?_)<;>try simp only [yL] at hc))
   have hrd7:GRd H7.up 1 r6 (e.rows.map lenF).length (ints .i64 (e.rows.map lenF)):=by
    rw [List.length_map,hrl];exact hO6.rd
   refine zm0 (place_ok' (wf_up hS7.wf) hfs hrd7 (by rw [List.length_map,hrl];omega)) fun r8 H8 hq=>?_
   obtain ⟨s,x,rfl,hx,hS8,_⟩:=hq
   have hS9:=hS7.trans (Same.down hS7.wf hS8)
   obtain ⟨n,rfl,hn⟩:=hx
   repeat' (first|refine zz1 @g61.eq_1 ?_|(refine zh (fun hc=>?_) (fun hc=>?_)<;>try simp only [yL] at hc))
   refine hPost _ _ ⟨⟨n,rfl,hn.trans ⟨fun h=>⟨hid,hsp,hk,hsk,by rw [hrl];exact hL,fun y hy=>?_,r,hfr,h⟩,fun h=>?_⟩⟩,hS9⟩
   ·obtain ⟨z,hz,rfl⟩:=List.mem_map.1 hy
    exact hall z hz
   ·obtain ⟨r',h1,h2⟩:=h.2.2.2.2.2.2
    rw [hfr] at h1
    cases h1
    exact h2
theorem rate_ok {r:Int} (hr:0≤r∧r≤255) {b:Bool} (H:GHeap):gev G 116 [.int .u8 r,.bool b] H=some (.int .i64 (if 0 < tk r∧(b=true→cdr r=true) then 0 else 13),H):=by
 refine gev_GWP (f:=116) rfl rfl rfl (fun Post hPost=>?_) H
 simp only [frameOf,Nat.reduceAdd]
 repeat' (first|refine zz1 @g116.eq_1 ?_|(refine zh (fun hc=>?_) (fun hc=>?_)<;>try simp only [yL] at hc))
 refine zc0 (one_of (tvalid_ok hr _)) fun r1 H1 hq=>?_
 obtain ⟨rfl,rfl⟩:=hq
 by_cases h0:0 < tk r
 case neg=>
  have d0:decide (0 < tk r)=false:=decide_eq_false h0
  rw [if_neg fun h=>h0 h.1] at hPost
  repeat' (first|refine zz2 @g116.eq_1 @d0 ?_|(refine zh (fun hc=>?_) (fun hc=>?_)<;>try simp only [yL] at hc))
  exact hPost _
 have d0:decide (0 < tk r)=true:=decide_eq_true h0
 cases b with
 |false=>
  rw [if_pos ⟨h0,fun h=>by cases h⟩] at hPost
  repeat' (first|refine zz2 @g116.eq_1 @d0 ?_|(refine zh (fun hc=>?_) (fun hc=>?_)<;>try simp only [yL] at hc))
  exact hPost _
 |true=>
  repeat' (first|refine zz2 @g116.eq_1 @d0 ?_|(refine zh (fun hc=>?_) (fun hc=>?_)<;>try simp only [yL] at hc))
  refine zc0 (one_of (canDrop_ok hr _)) fun r1 H1 hq=>?_
  obtain ⟨rfl,rfl⟩:=hq
  cases hc:cdr r with
  |true=>
   rw [if_pos ⟨h0,fun _=>hc⟩] at hPost
   repeat' (first|refine zz1 @g116.eq_1 ?_|(refine zh (fun hc=>?_) (fun hc=>?_)<;>try simp only [yL] at hc))
   exact hPost _
  |false=>
   rw [if_neg fun h=>by have:=h.2 rfl;rw [hc] at this;cases this] at hPost
   repeat' (first|refine zz1 @g116.eq_1 ?_|(refine zh (fun hc=>?_) (fun hc=>?_)<;>try simp only [yL] at hc))
   exact hPost _
end Go.Gh
end
