/-
  Parts of the proof: walks of the ghost functions and the laws of what they compute. No condition.
-/
import Derived.Test.YtjjcgaompnjbdaaGreatDoorQ7
section
namespace Go.Gh
set_option linter.unusedSimpArgs false
set_option linter.unusedVariables false
set_option maxHeartbeats 4000000
open Go.RowKit
set_option maxRecDepth 4000
section
variable {r:Int} (hr:rt2 r) {x:Lb} (hx:lbOk (nmn r) x)
include hr hx
theorem tchk_ok (H:GHeap):gev G 153 [.int .u8 r,lbV x] H=some (.int .i64 0,H):=by
 refine gev_GWP (f:=153) rfl (by simp [lbV,litOk,litFlat]) rfl (fun Post hPost=>?_) H
 simp only [frameOf,Nat.reduceAdd]
 have hw:=root_wf
 have hlim:=hw.1
 have k1:=nom_ok (rt2_u8 hr).1
 have k2:=rtE_2 hr
 obtain ⟨a1,a2,a3,a4⟩:=hx
 have d0:decide (x.h < 0)=false:=decide_eq_false (by omega)
 have d1:decide (23 < x.h)=false:=decide_eq_false (by omega)
 have d2:decide (x.m < 0)=false:=decide_eq_false (by omega)
 have d3:decide (59 < x.m)=false:=decide_eq_false (by omega)
 have d4:decide (x.s < 0)=false:=decide_eq_false (by omega)
 have d5:decide (59 < x.s)=false:=decide_eq_false (by omega)
 have d6:decide (x.f < 0)=false:=decide_eq_false (by omega)
 have d7:decide (nmn r≤x.f)=false:=decide_eq_false (by omega)
 repeat' (first|(exfalso;omega)|refine zz15 @g153.eq_1 @RK @RLb @drp_ok @k1 @k2 @d0 @d1 @d2 @d3 @d4 @d5 @d6 @d7 @rm64 ?_|(refine zh (fun hc=>?_) (fun hc=>?_)<;>try simp only [yL] at hc))
 all_goals exact hPost _
theorem tfrm_ok (H:GHeap):gev G 93 [.int .u8 r,lbV x] H=some (.tuple #[.int .i64 (((x.h * 60+x.m) * 60+x.s) * nmn r+x.f),.int .i64 0],H):=by
 refine gev_GWP (f:=93) rfl (by simp [lbV,litOk,litFlat]) (by simp [litVal,litOk,litFlat]) (fun Post hPost=>?_) H
 simp only [frameOf,Nat.reduceAdd]
 have hw:=root_wf
 have hlim:=hw.1
 have k1:=nom_ok (rt2_u8 hr).1
 have k2:=tchk_ok hr hx
 obtain ⟨a1,a2,a3,a4⟩:=hx
 have hn:=rt2_nm hr
 generalize nmn r=n at *
 have q1:0≤((x.h * 60+x.m) * 60+x.s) * n∧((x.h * 60+x.m) * 60+x.s) * n≤2592000:=by rcases hn with rfl|rfl<;>omega
 have e1:∀ y z:Int,y - 0 * z=y:=fun y z=>by simp
 repeat' (first|(exfalso;omega)|refine zz8 @g93.eq_1 @RK @RLb @drp_ok @k1 @k2 @dv64 @e1 ?_|(refine zh (fun hc=>?_) (fun hc=>?_)<;>try simp only [yL] at hc))
 exact hPost _
end
end Go.Gh
end
section
namespace Go.Gh
set_option linter.unusedSimpArgs false
set_option linter.unusedVariables false
set_option maxHeartbeats 4000000
open Go.RowKit
set_option maxRecDepth 4000
def dgU:Nat→Int→List UInt8
 |0,_=>[]
 |n+1,v=>dgU n (v / 10) ++ [UInt8.ofNat (48+v % 10).toNat]
theorem dgU_len:∀ (n:Nat) (v:Int),(dgU n v).length=n
 |0,_=>rfl
 |n+1,v=>by simp [dgU,dgU_len n]
theorem dg_set {j:Nat} {s:List UInt8} {c:Int} (h:0≤c∧c≤255):(u8s (List.replicate (j+1) 0 ++ s)).set j (.int .u8 c)=u8s (List.replicate j 0 ++ UInt8.ofNat c.toNat :: s):=by
 have e:(Value.int .u8 c)=.int .u8 ((UInt8.ofNat c.toNat).toNat:Int):=by rw [UInt8.toNat_ofNat'];congr 1;omega
 rw [e,u8s_setb,List.replicate_succ',List.append_assoc]
 congr 1
 simp
theorem dg_ok {v:Int} {n:Nat} (hv:0≤v∧v≤4611686018427387904) (hn:n≤8) (H:GHeap):gev G 143 [.int .i64 v,.int .i64 n] H=some (.string (strB (dgU n v)),H):=by
 refine gev_GWP (f:=143) rfl rfl rfl (fun Post hPost=>?_) H
 simp only [frameOf,Nat.reduceAdd]
 have hw:=root_wf
 repeat' (first|refine zz1 @g143.eq_1 ?_|(refine zh (fun hc=>?_) (fun hc=>?_)<;>try simp only [yL] at hc))
 refine GW_loop (fun k fr H1=>∃ (j:Nat) (w:Int) (s:List UInt8),k=j∧j+s.length=n∧fr.get 0=some (.int .i64 w)∧fr.get 5=some (.slice (some ⟨0,0,none⟩) n (n+1))∧fr.get 6=some (.int .i64 ((j:Int) - 1))∧H1.mine 0=some (u8s (List.replicate j 0 ++ s),257)∧Same ⟨.nil,0,0⟩ H1∧(0≤w∧w≤4611686018427387904)∧dgU n v=dgU j w ++ s) ?_ n ?_
 case refine_2=>
  refine ⟨n,v,[],rfl,by simp,?_⟩
  simp only [↓yG,Nat.reduceEqDiff,↓reduceIte,Int.natCast_add,Int.cast_ofNat_Int,Int.natCast_zero,true_and,and_true,Option.some.injEq,Value.int.injEq]
  exact ⟨by rw [List.append_nil];exact mine_add_eq rfl (Nat.le_refl _),(Same.refl hw).add _,hv,by simp⟩
 rintro j fr H1 ⟨_,w,s,rfl,hj,f0,f5,f6,hm,hS,hwr,hd⟩ J hJ
 have hw1:=hS.wf
 have hlim1:=hw1.1
 cases j with
 |zero=>
  have hl:s.length=n:=by simpa using hj
  subst hl
  have hs:=(RB.new (gc:=s.length+1) hw1 (by simpa using hm) (.inr rfl)).str
  repeat' (first|(exfalso;omega)|refine zz5 @g143.eq_1 @f0 @f5 @f6 @hs ?_|(refine zh (fun hc=>?_) (fun hc=>?_)<;>try simp only [yL] at hc))
  rw [show dgU 0 w ++ s=s from rfl] at hd
  rw [hd] at hPost
  exact hPost _
 |succ j=>
  rw [show ((j+1:Nat):Int) - 1=(j:Int) by omega] at f6
  have hset:=dg_set (j:=j) (s:=s) (c:=48+w % 10) (by omega)
  have hlen:j < (u8s (List.replicate (j+1) 0 ++ s)).length:=by simp [u8s_length];omega
  generalize u8s (List.replicate (j+1) 0 ++ s)=cs at *
  repeat' (first|(exfalso;omega)|refine zz8 @g143.eq_1 @f0 @f5 @f6 @rm64 @dv64 @hm @hset ?_|(refine zh (fun hc=>?_) (fun hc=>?_)<;>try simp only [yL] at hc))
  refine hJ _ _ ⟨j,by omega,j,w / 10,UInt8.ofNat (48+w % 10).toNat :: s,rfl,by simp;omega,?_⟩
  simp only [↓yG,Nat.reduceEqDiff,↓reduceIte,Int.natCast_add,Int.cast_ofNat_Int,Int.natCast_zero,true_and,and_true,Option.some.injEq,Value.int.injEq,f5]
  refine ⟨mine_put_same (mine_obj hm).1,hS.put (Nat.zero_le _) (mine_lt hw1 hm) _,by omega,by rw [hd,dgU,List.append_assoc];rfl⟩
def lbD (x:Lb):List UInt8:=dgU 2 x.h ++ (dgU 2 x.m ++ (dgU 2 x.s ++ dgU 2 x.f))
theorem lbD_len (x:Lb):(lbD x).length=8:=by simp [lbD,dgU_len]
def lbB (x:Lb):Prop:=lbOk 30 x
theorem lbOk_B {n:Int} {x:Lb} (hn:n=25∨n=30) (h:lbOk n x):lbB x:=by
 unfold lbB lbOk at *
 rcases hn with rfl|rfl<;>omega
theorem clock_ok {x:Lb} (hx:lbB x) (H:GHeap):gev G 144 [lbV x] H=some (.string (strB (lbD x)),H):=by
 refine gev_GWP (f:=144) rfl (by simp [lbV,litOk,litFlat]) rfl (fun Post hPost=>?_) H
 simp only [frameOf,Nat.reduceAdd]
 have hw:=root_wf
 have hlim:=hw.1
 obtain ⟨a1,a2,a3,a4⟩:=hx
 have k1:=dg_ok (v:=x.h) (n:=2) (by omega) (by omega)
 have k2:=dg_ok (v:=x.m) (n:=2) (by omega) (by omega)
 have k3:=dg_ok (v:=x.s) (n:=2) (by omega) (by omega)
 have k4:=dg_ok (v:=x.f) (n:=2) (by omega) (by omega)
 have l1:=dgU_len 2 x.h
 have l2:=dgU_len 2 x.m
 have l3:=dgU_len 2 x.s
 have l4:=dgU_len 2 x.f
 have hl:lbD x=dgU 2 x.h ++ dgU 2 x.m ++ dgU 2 x.s ++ dgU 2 x.f:=by simp [lbD,List.append_assoc]
 rw [hl] at hPost
 simp only [Int.cast_ofNat_Int] at k1 k2 k3 k4
 have e1:=gb_addB (e:=none) (a:=dgU 2 x.h) (b:=dgU 2 x.m) (by omega)
 have e2:=gb_addB (e:=none) (a:=dgU 2 x.h ++ dgU 2 x.m) (b:=dgU 2 x.s) (by simp;omega)
 have e3:=gb_addB (e:=none) (a:=dgU 2 x.h ++ dgU 2 x.m ++ dgU 2 x.s) (b:=dgU 2 x.f) (by simp;omega)
 repeat' (first|refine zz10 @g144.eq_1 @RK @RLb @k1 @k2 @k3 @k4 @e1 @e2 @e3 ?_|(refine zh (fun hc=>?_) (fun hc=>?_)<;>try simp only [yL] at hc))
 exact hPost _
def sigU (r:Int):List UInt8:=if r=5 then [83,84,76,51,48,46,48,49] else [83,84,76,50,53,46,48,49]
theorem sigU_len (r:Int):(sigU r).length=8:=by unfold sigU;split<;>rfl
theorem sig_ok {r:Int} (H:GHeap):gev G 142 [.int .u8 r] H=some (.string (strB (sigU r)),H):=by
 refine gev_GWP (f:=142) rfl rfl rfl (fun Post hPost=>?_) H
 simp only [frameOf,Nat.reduceAdd]
 unfold sigU at hPost
 by_cases h:r=5
 ·have d:decide (r=5)=true:=decide_eq_true h
  rw [if_pos h] at hPost
  repeat' (first|refine zz2 @g142.eq_1 @d ?_|(refine zh (fun hc=>?_) (fun hc=>?_)<;>try simp only [yL] at hc))
  exact hPost _
 ·have d:decide (r=5)=false:=decide_eq_false h
  rw [if_neg h] at hPost
  repeat' (first|refine zz2 @g142.eq_1 @d ?_|(refine zh (fun hc=>?_) (fun hc=>?_)<;>try simp only [yL] at hc))
  exact hPost _
def numA (l:List UInt8):Int:=l.foldl (fun a c=>10 * a+((c.toNat:Int) - 48)) 0
def isD (l:List UInt8):Prop:=∀ c ∈ l,48≤c.toNat∧c.toNat≤57
theorem numA_snoc (l:List UInt8) (c:UInt8):numA (l ++ [c])=10 * numA l+((c.toNat:Int) - 48):=by simp [numA]
theorem dgU_isD:∀ (n:Nat) (v:Int),isD (dgU n v)
 |0,_=>fun c h=>by cases h
 |n+1,v=>fun c h=>by
  rcases List.mem_append.1 h with h|h
  ·exact dgU_isD n _ c h
  ·rw [List.mem_singleton.1 h,UInt8.toNat_ofNat'];omega
theorem num_dg:∀ (n:Nat) {v:Int},0≤v→v < (10 ^ n:Nat)→numA (dgU n v)=v
 |0,v,h0,h1=>by
  have:v=0:=by simp at h1;omega
  subst this;rfl
 |n+1,v,h0,h1=>by
  have h2:v / 10 < (10 ^ n:Nat):=by rw [Nat.pow_succ] at h1;omega
  have h3:((UInt8.ofNat (48+v % 10).toNat).toNat:Int)=48+v % 10:=by rw [UInt8.toNat_ofNat'];omega
  rw [dgU,numA_snoc,num_dg n (by omega) h2,h3]
  omega
theorem numA_take {l:List UInt8} {j:Nat} (h:j < l.length):numA (l.take (j+1))=10 * numA (l.take j)+((l[j]!.toNat:Int) - 48):=by
 rw [List.take_succ_eq_append_getElem h,numA_snoc,← getElem!_pos l j h]
theorem numA_bd {l:List UInt8} (hd:isD l):∀ j,j≤l.length→0≤numA (l.take j)∧numA (l.take j) < (10 ^ j:Nat)
 |0,_=>by simp [numA]
 |j+1,h=>by
  have h1:=numA_bd hd j (by omega)
  have h2:=hd _ (show l[j]! ∈ l by rw [getElem!_pos l j (by omega)];exact List.getElem_mem _)
  rw [numA_take (by omega),Nat.pow_succ]
  omega
theorem number_ok {H:GHeap} (hw:H.wf) {v:Value} {l:List UInt8} (hv:RB H v l) (hd:isD l) (hl:l.length≤8):gev G 145 [v] H=some (.int .i64 (numA l),H):=by
 suffices h:∃ r H',gev G 145 [v] H=some (r,H')∧(r=.int .i64 (numA l)∧H'=H) by
  obtain ⟨r,H',e,rfl,rfl⟩:=h;exact e
 refine gev_GW (f:=145) rfl fun Post hPost=>?_
 have hlim:=hw.1
 have hsl:=hv.isSl
 have hbd:=numA_bd hd
 simp only [frameOf,Nat.reduceAdd]
 repeat' (first|refine zz2 @g145.eq_1 hsl.len ?_|(refine zh (fun hc=>?_) (fun hc=>?_)<;>try simp only [yL] at hc))
 refine GW_loop (fun k fr H1=>∃ j:Nat,k=l.length - j∧j≤l.length∧fr.get 3=some (.int .i64 (numA (l.take j)))∧fr.get 6=some (v)∧fr.get 7=some (.int .i64 l.length)∧fr.get 8=some (.int .i64 j)∧H1=H) ?_ l.length ?_
 case refine_2=>
  refine ⟨0,by omega,by omega,?_⟩
  simp only [↓yG,Nat.reduceEqDiff,↓reduceIte,Int.natCast_add,Int.cast_ofNat_Int,Int.natCast_zero,true_and,and_true,Option.some.injEq,Value.int.injEq]
  rfl
 rintro k fr H1 ⟨j,rfl,hj,f3,f6,f7,f8,rfl⟩ J hJ
 have hp:(10 ^ j:Nat)≤10 ^ 8:=Nat.pow_le_pow_right (by omega) (by omega)
 have hb:=hbd j hj
 by_cases hj1:j < l.length
 ·have e1:=hv.read hj1
  have e2:=numA_take hj1
  have hc:=hd _ (show l[j]! ∈ l by rw [getElem!_pos l j (by omega)];exact List.getElem_mem _)
  clear hbd
  generalize l[j]! =c at *
  have d1:decide ((c.toNat:Int) < 48)=false:=decide_eq_false (by omega)
  have d2:decide ((57:Int) < c.toNat)=false:=decide_eq_false (by omega)
  repeat' (first|(exfalso;omega)|refine zz10 @g145.eq_1 @f3 @f6 @f7 @f8 hsl.ix @Nat.mul_one @e1 @d1 @d2 ?_|(refine zh (fun hc=>?_) (fun hc=>?_)<;>try simp only [yL] at hc))
  refine hJ _ _ ⟨l.length - (j+1),by omega,j+1,rfl,by omega,?_⟩
  simp only [↓yG,Nat.reduceEqDiff,↓reduceIte,Int.natCast_add,Int.cast_ofNat_Int,Int.natCast_zero,true_and,and_true,Option.some.injEq,Value.int.injEq,f3,f6,f7]
  rw [e2]
 ·obtain rfl:j=l.length:=by omega
  rw [List.take_length] at f3
  repeat' (first|(exfalso;omega)|refine zz5 @g145.eq_1 @f3 @f6 @f7 @f8 ?_|(refine zh (fun hc=>?_) (fun hc=>?_)<;>try simp only [yL] at hc))
  exact hPost _ _ ⟨rfl,rfl⟩
theorem RB.sub {H:GHeap} {v:Value} {l:List UInt8} (h:RB H v l) {a b:Int} (h0:0≤a) (h1:a≤b) (h2:b≤l.length) {m:List UInt8} (hm:(l.drop a.toNat).take (b.toNat - a.toNat)=m):
 ∃ v',gslice (.sl 1) H v (some (.int .i64 a)) (some (.int .i64 b)) none=some v'∧RB H v' m:=by
 subst hm;exact h.slice h0 h1 h2
theorem RB.preM {H:GHeap} {v:Value} {l:List UInt8} (h:RB H v l) {b:Int} (h1:0≤b) (h2:b≤l.length) {m:List UInt8} (hm:l.take b.toNat=m):
 ∃ v',gslice (.sl 1) H v none (some (.int .i64 b)) none=some v'∧RB H v' m:=by
 subst hm;exact h.pre h1 h2
theorem RB.sufM {H:GHeap} {v:Value} {l:List UInt8} (h:RB H v l) {a:Int} (h1:0≤a) (h2:a≤l.length) {m:List UInt8} (hm:l.drop a.toNat=m):
 ∃ v',gslice (.sl 1) H v (some (.int .i64 a)) none none=some v'∧RB H v' m:=by
 subst hm;exact h.suf h1 h2
theorem GArg1.up {H:GHeap} {s n:Nat} {v:Value} {xs:List Value} (h:GArg1 H s v n xs):GArg1 H.up s v n xs:=⟨h.rd,h.sl⟩
theorem lab_ok {H:GHeap} (hw:H.wf) {v:Value} {x:Lb} (hx:lbB x) (hv:RB H v (lbD x)):∃ r H',gev G 146 [v] H=some (r,H')∧(r=lbV x∧Same H H'):=by
 refine gev_GW (f:=146) rfl fun Post hPost=>?_
 have hlim:=hw.1
 have hsl:=hv.isSl
 have hl:=lbD_len x
 simp only [frameOf,Nat.reduceAdd]
 obtain ⟨H1,hH1⟩:∃ H1,H1=H.add (some (.cells [.int .i64 0,.int .i64 0,.int .i64 0,.int .i64 0,.bool false] 0 true)):=⟨_,rfl⟩
 have hS1:Same H H1:=hH1 ▸ (Same.refl hw).add _
 have hv1:=hv.same_ hw hS1
 have m1:H1.mine H.len=some ([.int .i64 0,.int .i64 0,.int .i64 0,.int .i64 0,.bool false],0):=by rw [hH1];exact mine_add_eq rfl hlim
 have h2:=dgU_len 2
 obtain ⟨v1,s1,r1⟩:=hv1.preM (b:=2) (m:=dgU 2 x.h) (by omega) (by omega) (by simp [lbD,dgU])
 obtain ⟨v2,s2,r2⟩:=hv1.sub (a:=2) (b:=4) (m:=dgU 2 x.m) (by omega) (by omega) (by omega) (by simp [lbD,dgU])
 obtain ⟨v3,s3,r3⟩:=hv1.sub (a:=4) (b:=6) (m:=dgU 2 x.s) (by omega) (by omega) (by omega) (by simp [lbD,dgU])
 obtain ⟨v4,s4,r4⟩:=hv1.sub (a:=6) (b:=8) (m:=dgU 2 x.f) (by omega) (by omega) (by omega) (by simp [lbD,dgU])
 obtain ⟨a1,a2,a3,a4⟩:=hx
 have n1:=number_ok hS1.wf r1 (dgU_isD _ _) (by rw [h2];omega)
 have n2:=number_ok hS1.wf r2 (dgU_isD _ _) (by rw [h2];omega)
 have n3:=number_ok hS1.wf r3 (dgU_isD _ _) (by rw [h2];omega)
 have n4:=number_ok hS1.wf r4 (dgU_isD _ _) (by rw [h2];omega)
 rw [num_dg 2 (by omega) (by omega)] at n1 n2 n3 n4
 have hHs:=hH1.symm
 clear hH1 a1 a2 a3 a4
 repeat' (first|refine zz13 @g146.eq_1 @RK @RLb @hHs @s1 @s2 @s3 @s4 @n1 @n2 @n3 @n4 @m1 ?_|(refine zh (fun hc=>?_) (fun hc=>?_)<;>try simp only [yL] at hc))
 exact hPost _ _ ⟨rfl,hS1.put (Nat.le_refl _) (by rw [← hHs,len_add];omega) _⟩
end Go.Gh
end
section
namespace Go.Gh
set_option linter.unusedSimpArgs false
set_option linter.unusedVariables false
set_option maxHeartbeats 4000000
open Go.RowKit
set_option maxRecDepth 4000
def bU (l:List Int):List UInt8:=l.map fun c=>UInt8.ofNat c.toNat
def iU (l:List UInt8):List Int:=l.map fun c=>(c.toNat:Int)
theorem iU_ints (l:List UInt8):u8s l=ints .u8 (iU l):=by simp [u8s,ints,iU]
theorem iU_bU {l:List Int} (h:inR l):iU (bU l)=l:=by
 simp only [iU,bU,List.map_map]
 conv=>rhs;rw [← List.map_id l]
 refine List.map_congr_left fun c hc=>?_
 have:=h c hc
 simp only [Function.comp,UInt8.toNat_ofNat',id]
 omega
theorem bU_len (l:List Int):(bU l).length=l.length:=by simp [bU]
theorem bU_ints {l:List Int} (h:inR l):ints .u8 l=u8s (bU l):=by rw [iU_ints,iU_bU h]
structure SrcB (H:GHeap) (x:Value) (b:List UInt8):Prop where
 n:gcount x=some b.length
 c:gcells 1 b.length H x=some (u8s b)
theorem src_str (H:GHeap) (b:List UInt8):SrcB H (.string (strB b)) b:=⟨by simp [gcount,strB_size],by simp [gcells,strB_data,u8s]⟩
theorem RB.src {H:GHeap} {v:Value} {b:List UInt8} (h:RB H v b):SrcB H v b:=⟨h.count,h.cells⟩
def ovl (o:Nat) (b d:List UInt8):List UInt8:=d.take o ++ b ++ d.drop (o+b.length)
theorem ovl_len {o:Nat} {b d:List UInt8} (h:o+b.length≤d.length):(ovl o b d).length=d.length:=by simp [ovl];omega
theorem OS.dlen {H0 H:GHeap} {v:Value} {n:Nat} {d:List UInt8} (h:OS 1 257 H0 H v n (u8s d)):d.length=n:=by
 have:=h.own.len
 rwa [u8s_length,Nat.mul_one] at this
theorem OS.rb {H0 H:GHeap} {v:Value} {n:Nat} {d:List UInt8} (h:OS 1 257 H0 H v n (u8s d)):RB H v d:=by
 have e:=h.dlen
 subst e
 exact OwnG.arg h.same.wf h.own (.inr rfl)
theorem OS.at0 {s u:Nat} {H0 H:GHeap} {v:Value} {n:Nat} {d:List Value} (h:OS s u H0 H v n d) (h0:0 < n):∃ i gc,v=.slice (some ⟨i,0,none⟩) n gc∧(gc=0∨gc=n+1)∧H.mine i=some (d,u):=by
 rcases h.own.at_ with ⟨_,e⟩|h
 ·omega
 ·exact h
theorem OS.from {H0 H:GHeap} {v:Value} {n:Nat} {d:List UInt8} (h:OS 1 257 H0 H v n (u8s d)) {a:Nat} (ha:a < n):∃ g,gslice (.sl 1) H v (some (.int .i64 a)) none none=some (.slice (some ⟨blk v,a,none⟩) (n - a) g):=by
 obtain ⟨i,gc,rfl,hg,hm⟩:=h.at0 (by omega)
 have hu:H.unit i=some 257:=by unfold GHeap.unit;rw [(mine_obj hm).2];rfl
 have hcap:(if gc=0 then n else gc - 1)=n:=by rcases hg with rfl|rfl<;>simp
 have hb:gbounds n n (some (.int .i64 a)) none=some (a,n):=by
  simp only [gbounds]
  rw [if_pos (by omega)];simp
 refine ⟨if gc=0 then 0 else gc - a,?_⟩
 simp only [gslice,hu]
 rw [if_pos (.inr rfl),hcap,hb]
 simp [blk]
theorem OS.copyB {H0 H:GHeap} {v x:Value} {n:Nat} {d b:List UInt8} (h:OS 1 257 H0 H v n (u8s d)) (hx:SrcB H x b) {o m g:Nat} (hn:b.length≤m) (hl:o+b.length≤n) (h0:0 < n):
 ∃ H',gcopy 1 H (.slice (some ⟨blk v,o,none⟩) m g) x=some (.int .i64 (b.length:Int),H')∧OS 1 257 H0 H' v n (u8s (ovl o b d))∧But (fun j=>j ∈ idOf v) H H':=by
 have hd:=h.dlen
 have h3:min b.length m=b.length:=Nat.min_eq_left hn
 obtain ⟨i,gc,e,hg,hm⟩:=h.at0 h0
 have hb:blk v=i:=by rw [e];rfl
 by_cases hz:b.length=0
 ·refine ⟨H,?_,?_,But.refl h.same.wf⟩
  ·simp only [gcopy,hx.n,Option.bind_some,h3,hx.c,Nat.mul_one]
   rw [if_pos hz,hz]
  ·have:b=[]:=List.eq_nil_of_length_eq_zero hz
   subst this
   simpa [ovl] using h
 ·obtain ⟨k1,k2⟩:=h.setc e (ys:=u8s (ovl o b d)) (by rw [u8s_length,u8s_length,ovl_len (by omega)])
  refine ⟨_,?_,k1,k2.mono fun z hz=>by rw [hz,e];simp [idOf]⟩
  simp only [gcopy,hx.n,Option.bind_some,h3,hx.c,Nat.mul_one,hb,hm,u8s_length]
  rw [if_neg hz,if_pos ⟨by omega,trivial⟩]
  simp only [ovl,u8s_append,u8s_take,u8s_drop]
theorem rep_ok {H:GHeap} {i o gc:Nat} {cs:List Value} {x:UInt8} {n:Nat} (hc:H.cs i=some cs) (hx:cs[o]? =some (.int .u8 (x.toNat:Int))) (hn:n≤8192):
 gev G 141 [.slice (some ⟨i,o,none⟩) 1 gc,.int .i64 n] H=some (.slice (some ⟨H.len,0,none⟩) n (n+1),H.add (some (.cells (u8s (List.replicate n x)) 257 true))):=by
 refine gev_ext (f:=141) rfl ?_
 have:=x.toNat_lt
 simp only [runRep,hc,hx]
 rw [if_pos (by omega)]
 simp [u8s]
structure Hd where
 r:Int
 la:List UInt8
 ti:List UInt8
 bl:Int
 gr:Int
 st:Lb
 fi:Lb
 ro:Int
 co:Int
def hdC (h:Hd):List Value:=[.int .u8 h.r,.string (strB h.la),.string (strB h.ti),.int .i64 h.bl,.int .i64 h.gr,.int .i64 h.st.h,.int .i64 h.st.m,.int .i64 h.st.s,.int .i64 h.st.f,.bool false,.int .i64 h.fi.h,.int .i64 h.fi.m,.int .i64 h.fi.s,.int .i64 h.fi.f,.bool false,.int .i64 h.ro,.int .i64 h.co]
def hdV (h:Hd):Value:=.agg (hdC h).toArray
theorem hd_list (h:Hd):(hdV h).cells.toList=hdC h:=rfl
theorem hd_all (h:Hd):(hdV h).cells.all flatV=true:=by
 rw [← Array.all_toList,hd_list];simp [hdC,flatV]
section
variable {H:GHeap} {h:Hd} {u:Nat} {b:Bool}
theorem hdC_0:(hdC h)[0]? =some (.int .u8 h.r):=rfl
theorem hdC_1:(hdC h)[1]? =some (.string (strB h.la)):=rfl
theorem hdC_2:(hdC h)[2]? =some (.string (strB h.ti)):=rfl
theorem hdC_3:(hdC h)[3]? =some (.int .i64 h.bl):=rfl
theorem hdC_4:(hdC h)[4]? =some (.int .i64 h.gr):=rfl
theorem hdC_9:(hdC h)[9]? =some (.bool false):=rfl
theorem hdC_14:(hdC h)[14]? =some (.bool false):=rfl
theorem hdC_15:(hdC h)[15]? =some (.int .i64 h.ro):=rfl
theorem hdC_16:(hdC h)[16]? =some (.int .i64 h.co):=rfl
theorem hd_r5 {j:Nat} (e:H.len=j):(H.add (some (.cells (hdC h) u b))).rdn j 5 5=some (lbV h.st):=by simp only [GHeap.rdn,cs_add_eq e];rfl
theorem hd_r10 {j:Nat} (e:H.len=j):(H.add (some (.cells (hdC h) u b))).rdn j 10 5=some (lbV h.fi):=by simp only [GHeap.rdn,cs_add_eq e];rfl
theorem hd_r17 {j:Nat} (e:H.len=j):(H.add (some (.cells (hdC h) u b))).rdn j 0 17=some (hdV h):=rdn_add_all e rfl
theorem hd_p17 {j:Nat}:(H.put j (.cells (hdC h) u b)).rdn j 0 17=some (hdV h):=rdn_put_all rfl
theorem hd_set {cs:List Value} (e:cs.length=17):gsetn cs 0 17 (hdV h)=some (hdC h):=gsetn_all e rfl (by simp [hdC,flatV])
theorem hd_s0 {r:Int}:gset (hdC h) 0 (.int .u8 r)=some (hdC {h with r:=r}):=gset_ok (by simp [hdC]) rfl
theorem hd_s1 {l:List UInt8}:gset (hdC h) 1 (.string (strB l))=some (hdC {h with la:=l}):=gset_ok (by simp [hdC]) rfl
theorem hd_s2 {l:List UInt8}:gset (hdC h) 2 (.string (strB l))=some (hdC {h with ti:=l}):=gset_ok (by simp [hdC]) rfl
theorem hd_len:(hdC h).length=17:=rfl
end
theorem RH:type_of% (And.intro (And.intro (And.intro (And.intro @hd_list @hd_all) (And.intro @hdC_0 @hdC_1)) (And.intro (And.intro @hdC_2 @hdC_3) (And.intro @hdC_4 @hdC_9))) (And.intro (And.intro (And.intro @hdC_14 @hdC_15) (And.intro @hdC_16 @hd_r5)) (And.intro (And.intro @hd_r10 @hd_r17) (And.intro @hd_p17 (And.intro @hd_set (And.intro @hd_s0 (And.intro @hd_s1 (And.intro @hd_s2 @hd_len)))))))):=⟨⟨⟨⟨@hd_list,@hd_all⟩,⟨@hdC_0,@hdC_1⟩⟩,⟨⟨@hdC_2,@hdC_3⟩,⟨@hdC_4,@hdC_9⟩⟩⟩,⟨⟨⟨@hdC_14,@hdC_15⟩,⟨@hdC_16,@hd_r5⟩⟩,⟨⟨@hd_r10,@hd_r17⟩,⟨@hd_p17,⟨@hd_set,⟨@hd_s0,⟨@hd_s1,⟨@hd_s2,@hd_len⟩⟩⟩⟩⟩⟩⟩⟩
structure HdOk (h:Hd):Prop where
 r:rt2 h.r
 la:h.la=[]∨nameF h.la=true
 ti:vldB (strB h.ti)=true
 tl:h.ti.length≤400
 bl:0≤h.bl∧h.bl≤99999
 gr:0≤h.gr∧h.gr≤h.bl
 st:lbOk (nmn h.r) h.st
 fi:lbOk (nmn h.r) h.fi
 ro:0≤h.ro∧h.ro≤99
 co:0≤h.co∧h.co≤99
theorem nameF_len {l:List UInt8} (h:nameF l=true):1≤l.length∧l.length≤16:=by
 unfold nameF at h
 simp only [Bool.and_eq_true,decide_eq_true_eq] at h
 exact h.1.1
theorem HdOk.lal {h:Hd} (k:HdOk h):h.la.length≤16:=by
 rcases k.la with e|e
 ·rw [e];simp
 ·exact (nameF_len e).2
theorem ar_fill {a b:Lb}:(fillL [.int .i64 0,.int .i64 0,.int .i64 0,.int .i64 0,.bool false,.int .i64 0,.int .i64 0,.int .i64 0,.int .i64 0,.bool false] [(0,5,lbV a),(5,5,lbV b)])=some (lbC a ++ lbC b):=by
 simp [fillL,lb_list,lb_all,lbC,flatV]
theorem ar_0 {a b:Lb} {k:IntKind}:gix (some (2,5,some 5)) (.agg (lbC a ++ lbC b).toArray) (.int k 0)=some (lbV a):=rfl
theorem ar_1 {a b:Lb} {k:IntKind}:gix (some (2,5,some 5)) (.agg (lbC a ++ lbC b).toArray) (.int k 1)=some (lbV b):=rfl
theorem chkHd_ok {h:Hd} (k:HdOk h) (H:GHeap):gev G 140 [hdV h] H=some (.int .i64 0,H):=by
 refine gev_GWP (f:=140) rfl (by simp [hdV,hdC,litOk,litFlat]) rfl (fun Post hPost=>?_) H
 simp only [frameOf,Nat.reduceAdd]
 have hw:=root_wf
 have hlim:=hw.1
 obtain ⟨k1,k2,k3,k4,k5,k6,k7,k8,k9,k10⟩:=k
 have hs:=strB_size h.ti
 have c1:=name_ok (l:=h.la) (by
  rcases k2 with e|e
  ·rw [e];simp
  ·have:=nameF_len e;omega)
 have c2:=valid_ok (s:=strB h.ti) (by omega)
 rw [k3] at c2
 have c3:=tchk_ok k1 k7
 have c4:=tchk_ok k1 k8
 have d3:decide (400 < ((strB h.ti).size:Int))=false:=decide_eq_false (by omega)
 have d4:decide (h.bl < 0)=false:=decide_eq_false (by omega)
 have d5:decide (99999 < h.bl)=false:=decide_eq_false (by omega)
 have d6:decide (h.gr < 0)=false:=decide_eq_false (by omega)
 have d7:decide (99999 < h.gr)=false:=decide_eq_false (by omega)
 have d8:decide (h.ro < 0)=false:=decide_eq_false (by omega)
 have d9:decide (99 < h.ro)=false:=decide_eq_false (by omega)
 have d10:decide (h.co < 0)=false:=decide_eq_false (by omega)
 have d11:decide (99 < h.co)=false:=decide_eq_false (by omega)
 have d12:decide (h.bl < h.gr)=false:=decide_eq_false (by omega)
 have hr0:h.r=3∨¬ h.r=3∧h.r=5:=by rcases k1 with e|e<;>omega
 have q0:∀ c,(GHeap.add ⟨.nil,0,0⟩ (some (.cells (hdC h) 0 true))).rd 0 c=(hdC h)[c]?:=fun c=>rd_add_eq rfl
 by_cases hla:h.la=[]
 case' pos=>have d13:decide (¬ h.la=[])=false:=decide_eq_false fun e=>e hla
 case' neg=>
  have d13:decide (¬ h.la=[])=true:=decide_eq_true hla
  have d14:=k2.resolve_left hla
  rw [d14] at c1
 all_goals
  repeat' (first|(exfalso;omega)|refine zz20 @g140.eq_1 @RK @RLb @RH @gb_neE @d13 @c1 @c2 @strB_size @d3 @d4 @d5 @d6 @d7 @d8 @d9 @d10 @d11 @d12 @ar_fill ?_|(refine zh (fun hc=>?_) (fun hc=>?_)<;>try simp only [yL] at hc))
 all_goals
  refine GW_loop (fun k fr H2=>∃ j:Nat,k=2 - j∧j≤2∧fr.get 1=some (.pointer (some ⟨0,0,none⟩))∧fr.get 84=some (.agg (lbC h.st ++ lbC h.fi).toArray)∧fr.get 85=some (.int .i64 j)∧Same (GHeap.add ⟨.nil,0,0⟩ (some (.cells (hdC h) 0 true))) H2) ?_ 2 ?_
  rotate_left
  ·refine ⟨0,rfl,by omega,?_⟩
   simp only [↓yG,Nat.reduceEqDiff,↓reduceIte,Int.natCast_add,Int.cast_ofNat_Int,Int.natCast_zero,true_and,and_true,Option.some.injEq,Value.int.injEq]
   exact Same.refl ((Same.refl hw).add _).wf
  rintro k fr H2 ⟨j,rfl,hj,f1,f84,f85,hS⟩ J hJ
  have hw2:=hS.wf
  have hlim2:=hw2.1
  have hl2:=hS.len
  rw [len_add] at hl2
  have q:∀ c,H2.rd 0 c=(hdC h)[c]?:=fun c=>by rw [hS.rd (by rw [len_add];omega)];exact q0 c
  have p0:=q 0
  have p9:=q 9
  have p14:=q 14
  rw [hdC_0] at p0
  rw [hdC_9] at p9
  rw [hdC_14] at p14
  rcases (show j=0∨j=1∨j=2 by omega) with rfl|rfl|rfl
  ·replace f85:fr.get 85=some (.int .i64 0):=f85
   repeat' (first|(exfalso;omega)|refine zz9 @g140.eq_1 @RK @RLb @f1 @f84 @f85 @ar_0 @p0 @c3 ?_|(refine zh (fun hc=>?_) (fun hc=>?_)<;>try simp only [yL] at hc))
   refine hJ _ _ ⟨1,by omega,1,rfl,by omega,?_⟩
   simp only [↓yG,Nat.reduceEqDiff,↓reduceIte,Int.natCast_add,Int.cast_ofNat_Int,Int.natCast_zero,true_and,and_true,Option.some.injEq,Value.int.injEq,f1,f84]
   exact ⟨rfl,hS.new _ _⟩
  ·replace f85:fr.get 85=some (.int .i64 1):=f85
   repeat' (first|(exfalso;omega)|refine zz9 @g140.eq_1 @RK @RLb @f1 @f84 @f85 @ar_1 @p0 @c4 ?_|(refine zh (fun hc=>?_) (fun hc=>?_)<;>try simp only [yL] at hc))
   refine hJ _ _ ⟨0,by omega,2,rfl,by omega,?_⟩
   simp only [↓yG,Nat.reduceEqDiff,↓reduceIte,Int.natCast_add,Int.cast_ofNat_Int,Int.natCast_zero,true_and,and_true,Option.some.injEq,Value.int.injEq,f1,f84]
   exact ⟨rfl,hS.new _ _⟩
  ·replace f85:fr.get 85=some (.int .i64 2):=f85
   repeat' (first|(exfalso;omega)|refine zz6 @g140.eq_1 @f1 @f84 @f85 @p9 @p14 ?_|(refine zh (fun hc=>?_) (fun hc=>?_)<;>try simp only [yL] at hc))
   exact hPost _
end Go.Gh
end
section
namespace Go.Gh
set_option linter.unusedSimpArgs false
set_option linter.unusedVariables false
set_option maxHeartbeats 4000000
open Go.RowKit
set_option maxRecDepth 4000
def hdT (h:Hd):List UInt8:=bU (encA (rns (strB h.ti)))
def hdN (h:Hd):List UInt8:=dgU 3 (hdT h).length ++ (dgU 5 h.bl ++ (dgU 5 h.gr ++ (lbD h.st ++ (lbD h.fi ++ (dgU 2 h.ro ++ dgU 2 h.co)))))
def hdB (h:Hd):List UInt8:=sigU h.r ++ ((h.la ++ List.replicate (16 - h.la.length) 32) ++ (hdN h ++ (List.replicate 7 32 ++ (hdT h ++ List.replicate (960 - (hdT h).length) 32))))
theorem hdN_len (h:Hd):(hdN h).length=33:=by simp [hdN,dgU_len,lbD_len]
theorem HdOk.tl2 {h:Hd} (k:HdOk h):(hdT h).length≤800:=by
 have h1:=encA_len (rns (strB h.ti))
 have h2:=rns_len (strB h.ti)
 have h3:=k.tl
 rw [strB_size] at h2
 rw [hdT,bU_len]
 omega
theorem hdB_len {h:Hd} (k:HdOk h):(hdB h).length=1024:=by
 have h1:=k.tl2
 have h2:=k.lal
 simp only [hdB,List.length_append,sigU_len,hdN_len,List.length_replicate]
 omega
theorem ovl_at {a b d:List UInt8} {o:Nat} (ho:o=a.length):ovl o b (a ++ d)=a ++ (b ++ d.drop b.length):=by
 subst ho
 simp [ovl,List.append_assoc,List.drop_append]
theorem rep_drop (n m:Nat) (x:UInt8):(List.replicate n x).drop m=List.replicate (n - m) x:=by simp
theorem rep_split {n m k:Nat} (x:UInt8) (h:n=m+k):List.replicate n x=List.replicate m x ++ List.replicate k x:=by rw [h,List.replicate_append_replicate]
theorem hd_ovl {h:Hd} (k:HdOk h):ovl 64 (hdT h) (ovl 24 (hdN h) (ovl 8 h.la (ovl 0 (sigU h.r) (List.replicate 1024 32))))=hdB h:=by
 have h1:=k.tl2
 have h2:=k.lal
 have e1:ovl 0 (sigU h.r) (List.replicate 1024 32)=sigU h.r ++ List.replicate 1016 32:=by
  have:=ovl_at (a:=[]) (b:=sigU h.r) (d:=List.replicate 1024 32) (o:=0) rfl
  rw [List.nil_append,List.nil_append,rep_drop,sigU_len] at this
  exact this
 have e2:ovl 8 h.la (sigU h.r ++ List.replicate 1016 32)=(sigU h.r ++ (h.la ++ List.replicate (16 - h.la.length) 32)) ++ List.replicate 1000 32:=by
  rw [ovl_at (sigU_len h.r).symm,rep_drop,rep_split 32 (show 1016 - h.la.length=(16 - h.la.length)+1000 by omega)]
  simp [List.append_assoc]
 have e3:ovl 24 (hdN h) ((sigU h.r ++ (h.la ++ List.replicate (16 - h.la.length) 32)) ++ List.replicate 1000 32)=((sigU h.r ++ (h.la ++ List.replicate (16 - h.la.length) 32)) ++ (hdN h ++ List.replicate 7 32)) ++ List.replicate 960 32:=by
  rw [ovl_at (by simp [sigU_len];omega),rep_drop,hdN_len,rep_split 32 (show 1000 - 33=7+960 by omega)]
  simp [List.append_assoc]
 rw [e1,e2,e3,ovl_at (by simp [sigU_len,hdN_len];omega),rep_drop]
 simp [hdB,List.append_assoc]
theorem set1 {x:Value}:(u8s (List.replicate 1 0)).set 0 x=[x]:=rfl
theorem keep1 {H:GHeap} {i:Nat} {c:List Value × Nat} (h:H.mine i=some c) {n gc:Nat}:gkeep H (.slice (some ⟨i,0,none⟩) (n+1) gc)=some (.slice (some ⟨i,0,none⟩) (n+1) gc,H):=by
 simp only [gkeep,h,Option.map_some]
theorem puth_ok {H:GHeap} (hw:H.wf) {h:Hd} (k:HdOk h):∃ r H',gev G 88 [hdV h] H=some (r,H')∧∃ v,r=.tuple #[v,.int .i64 0]∧OS 1 257 H H' v (hdB h).length (u8s (hdB h)):=by
 refine gev_GW (f:=88) rfl fun Post hPost=>?_
 have hlim:=hw.1
 simp only [frameOf,Nat.reduceAdd]
 have c1:=chkHd_ok k
 obtain ⟨H1,hH1⟩:∃ H1,H1=H.add (some (.cells (hdC h) 0 true)):=⟨_,rfl⟩
 have hS1:Same H H1:=hH1 ▸ (Same.refl hw).add _
 have hl1:H.len < H1.len:=by rw [hH1,len_add];omega
 have q0:∀ c,H1.rd H.len c=(hdC h)[c]?:=fun c=>by rw [hH1];exact rd_add_eq rfl
 have q5:H1.rdn H.len 5 5=some (lbV h.st):=by rw [hH1];exact hd_r5 rfl
 have q10:H1.rdn H.len 10 5=some (lbV h.fi):=by rw [hH1];exact hd_r10 rfl
 have q17:H1.rdn H.len 0 17=some (hdV h):=by rw [hH1];exact hd_r17 rfl
 have hHs:=hH1.symm
 clear hH1
 have p2:=q0 2
 rw [hdC_2] at p2
 repeat' (first|refine zz7 @g88.eq_1 @RK @RH @hHs @q17 @c1 @p2 ?_|(refine zh (fun hc=>?_) (fun hc=>?_)<;>try simp only [yL] at hc))
 have hsz:=strB_size h.ti
 have htl:=k.tl
 refine zc0 (encode_ok hS1.wf (s:=strB h.ti) (b:=true) (by omega) (fun H=>by rw [valid_ok (by omega),k.ti])) fun r2 H2 hq=>?_
 obtain ⟨tv,rfl,hO2⟩:=hq
 simp only [if_true] at hO2
 have hT:ints .u8 (encA (rns (strB h.ti)))=u8s (hdT h):=bU_ints fun n hn=>okByte_le ((decA_enc (vldB_mem k.ti)).1 n hn)
 have hTl:(encA (rns (strB h.ti))).length=(hdT h).length:=by rw [hdT,bU_len]
 rw [hT,hTl] at hO2
 have htv:=hO2.rb
 have hw2:=hO2.same.wf
 have hlim2:=hw2.1
 obtain ⟨H3,hH3⟩:∃ H3,H3=H2.add (some (.cells [.int .u8 32] 257 true)):=⟨_,rfl⟩
 have hS3:Same H2 H3:=hH3 ▸ (Same.refl hw2).add _
 have m3:H3.mine H2.len=some ([.int .u8 32],257):=by rw [hH3];exact mine_add_eq rfl hlim2
 have kp:gkeep H3 (.slice (some ⟨H2.len,0,none⟩) 1 2)=some (.slice (some ⟨H2.len,0,none⟩) 1 2,H3):=keep1 m3
 have hrp:=rep_ok (H:=H3) (i:=H2.len) (o:=0) (gc:=2) (cs:=[.int .u8 32]) (x:=32) (n:=1024) (by rw [hH3];exact cs_add_eq rfl) rfl (by omega)
 obtain ⟨H4,hH4⟩:∃ H4,H4=H3.add (some (.cells (u8s (List.replicate 1024 32)) 257 true)):=⟨_,rfl⟩
 have hO4:OS 1 257 H2 H4 (.slice (some ⟨H3.len,0,none⟩) 1024 1025) 1024 (u8s (List.replicate 1024 32)):=by
  rw [hH4];exact OS.made' hS3 (by simp [u8s_length])
 rw [← hH4] at hrp
 simp only [Int.cast_ofNat_Int,Nat.reduceAdd] at hrp
 have hHs3:=hH3.symm
 clear hH3 hH4
 have hS12:=hO2.same
 have box:∀ {H':GHeap},Same H2 H'→(∀ c,H'.rd H.len c=(hdC h)[c]?)∧H'.rdn H.len 5 5=some (lbV h.st)∧H'.rdn H.len 10 5=some (lbV h.fi):=fun hs=>by
  have:=hS12.trans hs
  exact ⟨fun c=>by rw [this.rd hl1];exact q0 c,by rw [this.rdn hl1];exact q5,by rw [this.rdn hl1];exact q10⟩
 have hl8:=sigU_len h.r
 have c2:=sig_ok (r:=h.r)
 have r4:=(box hO4.same).1 0
 rw [hdC_0] at r4
 obtain ⟨H5,e5,hO5,_⟩:=hO4.copyB (src_str H4 (sigU h.r)) (o:=0) (m:=1024) (g:=1025) (by omega) (by omega) (by omega)
 have hb3:blk (Value.slice (some ⟨H3.len,0,none⟩) 1024 1025)=H3.len:=rfl
 rw [hb3] at e5
 repeat' (first|refine zz9 @g88.eq_1 @RK @set1 @hHs3 @kp @hrp @r4 @c2 @e5 ?_|(refine zh (fun hc=>?_) (fun hc=>?_)<;>try simp only [yL] at hc))
 obtain ⟨g6,s6⟩:=hO5.from (a:=8) (by omega)
 have r5:=(box hO5.same).1 1
 rw [hdC_1] at r5
 obtain ⟨H6,e6,hO6,_⟩:=hO5.copyB (src_str H5 h.la) (o:=8) (m:=1024 - 8) (g:=g6) (by have:=k.lal;omega) (by have:=k.lal;omega) (by omega)
 simp only [Int.cast_ofNat_Int] at s6
 rw [hb3] at s6 e6
 repeat' (first|refine zz4 @g88.eq_1 @r5 @s6 @e6 ?_|(refine zh (fun hc=>?_) (fun hc=>?_)<;>try simp only [yL] at hc))
 obtain ⟨g7,s7⟩:=hO6.from (a:=24) (by omega)
 obtain ⟨b6,b65,b610⟩:=box hO6.same
 have b3:=b6 3
 have b4:=b6 4
 have b15:=b6 15
 have b16:=b6 16
 rw [hdC_3] at b3
 rw [hdC_4] at b4
 rw [hdC_15] at b15
 rw [hdC_16] at b16
 obtain ⟨H7,e7,hO7,_⟩:=hO6.copyB (src_str H6 (hdN h)) (o:=24) (m:=1024 - 24) (g:=g7) (by rw [hdN_len];omega) (by rw [hdN_len];omega) (by omega)
 have hk1:=k.tl2
 have kk:=k
 obtain ⟨k1,k2,k3,k4,k5,k6,k7,k8,k9,k10⟩:=kk
 have n1:=dg_ok (v:=(hdT h).length) (n:=3) (by omega) (by omega)
 have n2:=dg_ok (v:=h.bl) (n:=5) (by omega) (by omega)
 have n3:=dg_ok (v:=h.gr) (n:=5) (by omega) (by omega)
 have n4:=clock_ok (lbOk_B (rt2_nm k1) k7)
 have n5:=clock_ok (lbOk_B (rt2_nm k1) k8)
 have n6:=dg_ok (v:=h.ro) (n:=2) (by omega) (by omega)
 have n7:=dg_ok (v:=h.co) (n:=2) (by omega) (by omega)
 simp only [Int.cast_ofNat_Int] at n1 n2 n3 n6 n7 s7
 have hN:hdN h=dgU 3 (hdT h).length ++ dgU 5 h.bl ++ dgU 5 h.gr ++ lbD h.st ++ lbD h.fi ++ dgU 2 h.ro ++ dgU 2 h.co:=by simp [hdN,List.append_assoc]
 rw [hN] at e7
 rw [hb3] at s7 e7
 have hlb:=lbD_len
 have hdg:=dgU_len
 have hsl:=htv.isSl
 have ad:∀ a b:List UInt8,a.length≤40→b.length≤8→gbin .add none (.string (strB a)) (.string (strB b))=some (.string (strB (a ++ b))):=fun a b h1 h2=>gb_addB (by omega)
 have a1:=ad (dgU 3 (hdT h).length) (dgU 5 h.bl) (by simp [hdg]) (by simp [hdg])
 have a2:=ad (dgU 3 (hdT h).length ++ dgU 5 h.bl) (dgU 5 h.gr) (by simp [hdg]) (by simp [hdg])
 have a3:=ad (dgU 3 (hdT h).length ++ dgU 5 h.bl ++ dgU 5 h.gr) (lbD h.st) (by simp [hdg]) (by simp [hlb])
 have a4:=ad (dgU 3 (hdT h).length ++ dgU 5 h.bl ++ dgU 5 h.gr ++ lbD h.st) (lbD h.fi) (by simp [hdg,hlb]) (by simp [hlb])
 have a5:=ad (dgU 3 (hdT h).length ++ dgU 5 h.bl ++ dgU 5 h.gr ++ lbD h.st ++ lbD h.fi) (dgU 2 h.ro) (by simp [hdg,hlb]) (by simp [hdg])
 have a6:=ad (dgU 3 (hdT h).length ++ dgU 5 h.bl ++ dgU 5 h.gr ++ lbD h.st ++ lbD h.fi ++ dgU 2 h.ro) (dgU 2 h.co) (by simp [hdg,hlb]) (by simp [hdg])
 clear ad
 repeat' (first|refine zz24 @g88.eq_1 @RK @b65 @b610 @b3 @b4 @b15 @b16 @s7 @n1 @n2 @n3 @n4 @n5 @n6 @n7 @a1 @a2 @a3 @a4 @a5 @a6 hsl.len @e7 ?_|(refine zh (fun hc=>?_) (fun hc=>?_)<;>try simp only [yL] at hc))
 obtain ⟨g8,s8⟩:=hO7.from (a:=64) (by omega)
 obtain ⟨H8,e8,hO8,_⟩:=hO7.copyB (htv.same_ hw2 hO7.same).src (o:=64) (m:=1024 - 64) (g:=g8) (by omega) (by omega) (by omega)
 simp only [Int.cast_ofNat_Int] at s8
 rw [hb3] at s8 e8
 repeat' (first|refine zz3 @g88.eq_1 @s8 @e8 ?_|(refine zh (fun hc=>?_) (fun hc=>?_)<;>try simp only [yL] at hc))
 rw [hd_ovl k] at hO8
 refine hPost _ _ ⟨_,rfl,?_⟩
 rw [hdB_len k]
 exact hO8.weaken (hS1.trans hS12)
end Go.Gh
end
section
namespace Go.Gh
set_option linter.unusedSimpArgs false
set_option linter.unusedVariables false
set_option maxHeartbeats 4000000
open Go.RowKit
set_option maxRecDepth 4000
theorem trimB_ok {H:GHeap} {v:Value} {la:List UInt8} {m:Nat} (hv:RB H v (la ++ List.replicate m 32)) (hn:(la ++ List.replicate m 32).length≤1000) (hla:∀ c ∈ la,c≠32):
 ∃ r H',gev G 180 [v,.int .u8 32] H=some (r,H')∧(RB H r la∧H'=H):=by
 refine gev_GW (f:=180) rfl fun Post hPost=>?_
 simp only [frameOf,Nat.reduceAdd]
 repeat' (first|refine zz1 @g180.eq_1 ?_|(refine zh (fun hc=>?_) (fun hc=>?_)<;>try simp only [yL] at hc))
 refine GW_loop (fun k fr H1=>∃ (j:Nat) (w:Value),k=j∧j≤m∧fr.get 0=some (w)∧fr.get 1=some (.int .u8 32)∧RB H w (la ++ List.replicate j 32)∧H1=H) ?_ m ?_
 case refine_2=>
  refine ⟨m,v,rfl,by omega,?_⟩
  simp only [↓yG,Nat.reduceEqDiff,↓reduceIte,Int.natCast_add,Int.cast_ofNat_Int,Int.natCast_zero,true_and,and_true,Option.some.injEq,Value.int.injEq]
  exact hv
 rintro j fr H1 ⟨_,w,rfl,hj,f0,f1,hw,rfl⟩ J hJ
 have hsl:=hw.isSl
 have hlen:(la ++ List.replicate j 32).length=la.length+j:=by simp
 have hla':la.length≤1000∧m≤1000:=by simp at hn;omega
 cases j with
 |succ j=>
  have e0:((la ++ List.replicate (j+1) (32:UInt8)).length:Int) - 1=((la.length+j:Nat):Int):=by rw [hlen];omega
  have e1:=hw.read (k:=la.length+j) (by rw [hlen];omega)
  have e2:(la ++ List.replicate (j+1) (32:UInt8))[la.length+j]! =32:=by
   rw [getElem!_pos _ _ (by rw [hlen];omega),List.getElem_append_right (by omega)];simp
  rw [e2] at e1
  obtain ⟨w',s1,r1⟩:=hw.preM (b:=((la.length+j:Nat):Int)) (m:=la ++ List.replicate j 32) (by omega) (by rw [hlen];omega) (by
   rw [Int.toNat_natCast,List.take_append,List.take_of_length_le (by omega),Nat.add_sub_cancel_left];simp)
  have d0:decide (0 < ((la ++ List.replicate (j+1) (32:UInt8)).length:Int))=true:=decide_eq_true (by rw [hlen];omega)
  have d1:decide ((((32:UInt8).toNat:Nat):Int)=32)=true:=rfl
  have hx:=hsl.ix (size:=1) (k:=.i64) (j:=((la.length+j:Nat):Int)) (by omega) (by rw [hlen];omega)
  rw [Int.toNat_natCast,Nat.mul_one] at hx
  repeat' (first|(exfalso;omega)|refine zz10 @g180.eq_1 @f0 @f1 hsl.len @d0 @e0 @hx @e1 @d1 @s1 ?_|(refine zh (fun hc=>?_) (fun hc=>?_)<;>try simp only [yL] at hc))
  refine hJ _ _ ⟨j,by omega,j,w',rfl,by omega,?_⟩
  simp only [↓yG,Nat.reduceEqDiff,↓reduceIte,Int.natCast_add,Int.cast_ofNat_Int,Int.natCast_zero,true_and,and_true,Option.some.injEq,Value.int.injEq,f1]
  exact r1
 |zero=>
  have hw0:RB H1 w la:=by simpa using hw
  have hsl0:=hw0.isSl
  by_cases h0:la.length=0
  ·have d0:decide (0 < (la.length:Int))=false:=decide_eq_false (by omega)
   repeat' (first|(exfalso;omega)|refine zz5 @g180.eq_1 @f0 @f1 hsl0.len @d0 ?_|(refine zh (fun hc=>?_) (fun hc=>?_)<;>try simp only [yL] at hc))
   exact hPost _ _ ⟨hw0,rfl⟩
  ·have d0:decide (0 < (la.length:Int))=true:=decide_eq_true (by omega)
   have e1:=hw0.read (k:=la.length - 1) (by omega)
   have hc:=hla la[la.length - 1]! (by rw [getElem!_pos la _ (by omega)];exact List.getElem_mem _)
   have e0:(la.length:Int) - 1=((la.length - 1:Nat):Int):=by omega
   have hx:=hsl0.ix (size:=1) (k:=.i64) (j:=((la.length - 1:Nat):Int)) (by omega) (by omega)
   rw [Int.toNat_natCast,Nat.mul_one] at hx
   have d1:decide ((la[la.length - 1]!.toNat:Int)=32)=false:=decide_eq_false fun h=>hc (UInt8.toNat_inj.1 (by simpa using Int.ofNat.inj h))
   repeat' (first|(exfalso;omega)|refine zz9 @g180.eq_1 @f0 @f1 hsl0.len @d0 @e0 @hx @e1 @d1 ?_|(refine zh (fun hc=>?_) (fun hc=>?_)<;>try simp only [yL] at hc))
   exact hPost _ _ ⟨hw0,rfl⟩
theorem ix32 {k:IntKind}:gix none (.string ⟨#[32]⟩) (.int k 0)=some (.int .u8 32):=rfl
theorem trim_ok {H:GHeap} {v:Value} {la:List UInt8} {m:Nat} (hv:RB H v (la ++ List.replicate m 32)) (h0:0 < (la ++ List.replicate m 32).length) (hn:(la ++ List.replicate m 32).length≤1000) (hla:∀ c ∈ la,c≠32):
 ∃ r H',gev G 147 [v,.string ⟨#[32]⟩] H=some (r,H')∧(RB H r la∧H'=H):=by
 refine gev_GW (f:=147) rfl fun Post hPost=>?_
 simp only [frameOf,Nat.reduceAdd]
 have hsl:=hv.isSl
 have d0:decide (((la ++ List.replicate m (32:UInt8)).length:Int)=0)=false:=decide_eq_false (by omega)
 have e1:gbin .eql (some .str) (.string ⟨#[32]⟩) (.string ⟨#[]⟩)=some (.bool false):=gb_eqlB (a:=[32]) (b:=[])
 have e2:(((⟨#[32]⟩:ByteArray).size:Nat):Int)=1:=rfl
 have d1:decide ((1:Int)=1)=true:=rfl
 have d2:decide ((32:Int) < 128)=true:=rfl
 repeat' (first|refine zz8 @g147.eq_1 hsl.len @d0 @ix32 @e1 @e2 @d1 @d2 ?_|(refine zh (fun hc=>?_) (fun hc=>?_)<;>try simp only [yL] at hc))
 refine zc0 (trimB_ok hv hn hla) fun r2 H2 hq=>?_
 obtain ⟨hr,rfl⟩:=hq
 repeat' (first|refine zz1 @g147.eq_1 ?_|(refine zh (fun hc=>?_) (fun hc=>?_)<;>try simp only [yL] at hc))
 exact hPost _ _ ⟨hr,rfl⟩
theorem bEq_ok {H:GHeap} {v w:Value} {a b:List UInt8} (hv:RB H v a) (hw:RB H w b):gev G 149 [v,w] H=some (.bool (decide (a=b)),H):=by
 suffices h:∃ r H',gev G 149 [v,w] H=some (r,H')∧(r=.bool (decide (a=b))∧H'=H) by
  obtain ⟨r,H',e,rfl,rfl⟩:=h;exact e
 refine gev_GW (f:=149) rfl fun Post hPost=>?_
 simp only [frameOf,Nat.reduceAdd]
 have e1:=hv.str
 have e2:=hw.str
 repeat' (first|refine zz3 @g149.eq_1 @e1 @e2 ?_|(refine zh (fun hc=>?_) (fun hc=>?_)<;>try simp only [yL] at hc))
 exact hPost _ _ ⟨rfl,rfl⟩
theorem flat_fld:∀ (F:List (List UInt8)) (k:Nat) (x:List UInt8),F[k]? =some x→(F.flatten.drop ((F.take k).flatten.length)).take x.length=x
 |[],k,x,h=>by simp at h
 |y :: F,0,x,h=>by
  simp at h;subst h;simp
 |y :: F,k+1,x,h=>by
  have ih:=flat_fld F k x (by simpa using h)
  rw [List.take_succ_cons,List.flatten_cons,List.flatten_cons,List.length_append,← List.drop_drop,List.drop_left]
  exact ih
def hdF (h:Hd):List (List UInt8):=[sigU h.r,h.la ++ List.replicate (16 - h.la.length) 32,dgU 3 (hdT h).length,dgU 5 h.bl,dgU 5 h.gr,lbD h.st,lbD h.fi,dgU 2 h.ro,dgU 2 h.co,List.replicate 7 32,hdT h,List.replicate (960 - (hdT h).length) 32]
theorem hdB_F (h:Hd):hdB h=(hdF h).flatten:=by simp [hdB,hdF,hdN,List.append_assoc]
theorem hd_fld {h:Hd} (k:HdOk h):∀ (i:Nat) (x:List UInt8) (a b:Nat),(hdF h)[i]? =some x→a=[0,8,24,27,32,37,45,53,55,57,64][i]!→b=x.length→i < 11→((hdB h).drop a).take b=x:=by
 intro i x a b h1 h2 h3 h4
 have:=flat_fld (hdF h) i x h1
 rw [← hdB_F,← h3] at this
 have hl:=k.lal
 have e:((hdF h).take i).flatten.length=a:=by
  rw [h2]
  rcases (show i=0∨i=1∨i=2∨i=3∨i=4∨i=5∨i=6∨i=7∨i=8∨i=9∨i=10 by omega) with rfl|rfl|rfl|rfl|rfl|rfl|rfl|rfl|rfl|rfl|rfl<;>simp [hdF,sigU_len,dgU_len,lbD_len]<;>omega
 rwa [e] at this
theorem hd_fold (h:Hd):Value.agg (hdC h).toArray=hdV h:=rfl
theorem hd_fill {a b c d e:Int} {x y:Lb}:fillL [.int .u8 0,.string ⟨#[]⟩,.string ⟨#[]⟩,.int .i64 0,.int .i64 0,.int .i64 0,.int .i64 0,.int .i64 0,.int .i64 0,.bool false,.int .i64 0,.int .i64 0,.int .i64 0,.int .i64 0,.bool false,.int .i64 0,.int .i64 0] [(0,1,.int .u8 a),(3,1,.int .i64 b),(4,1,.int .i64 c),(5,5,lbV x),(10,5,lbV y),(15,1,.int .i64 d),(16,1,.int .i64 e)]=some (hdC ⟨a,[],[],b,c,x,y,d,e⟩):=by kernel_rfl
theorem nameF_ne {l:List UInt8} (h:nameF l=true):∀ c ∈ l,c≠32:=fun c hc e=>by
 unfold nameF at h
 simp only [Bool.and_eq_true,List.all_eq_true] at h
 have:=h.2 c hc
 rw [e] at this
 revert this;decide
theorem hdT_dec {h:Hd} (k:HdOk h):decV (encA (rns (strB h.ti)))=h.ti∧decE (encA (rns (strB h.ti)))=0:=by
 obtain ⟨_,hd⟩:=decA_enc (vldB_mem k.ti)
 refine ⟨?_,by simp only [decE,hd]⟩
 simp only [decV,hd]
 unfold encs' asI
 rw [List.flatMap_map]
 exact enc_rns k.ti
theorem geth_ok {H:GHeap} (hw:H.wf) {v:Value} {h:Hd} (k:HdOk h) (hv:RB H v (hdB h)):∃ r H',gev G 90 [v] H=some (r,H')∧(r=.tuple #[hdV h,.int .i64 0]∧Same H H'):=by
 refine gev_GW (f:=90) rfl fun Post hPost=>?_
 have hlim:=hw.1
 have hsl:=hv.isSl
 have hl:=hdB_len k
 simp only [frameOf,Nat.reduceAdd]
 have d0:decide (¬ ((hdB h).length:Int)=1024)=false:=decide_eq_false (by omega)
 obtain ⟨Z,hZ⟩:∃ Z:List Value,Z=[.int .u8 0,.string ⟨#[]⟩,.string ⟨#[]⟩,.int .i64 0,.int .i64 0,.int .i64 0,.int .i64 0,.int .i64 0,.int .i64 0,.bool false,.int .i64 0,.int .i64 0,.int .i64 0,.int .i64 0,.bool false,.int .i64 0,.int .i64 0]:=⟨_,rfl⟩
 have hZl:Z.length=17:=by rw [hZ];rfl
 obtain ⟨H1,hH1⟩:∃ H1,H1=H.add (some (.cells Z 0 true)):=⟨_,rfl⟩
 have hS1:Same H H1:=hH1 ▸ (Same.refl hw).add _
 have m1:H1.mine H.len=some (Z,0):=by rw [hH1];exact mine_add_eq rfl hlim
 have hw1:=hS1.wf
 have hv1:=hv.same_ hw hS1
 have f3:=hd_fld k 3 _ 27 5 rfl rfl (dgU_len _ _).symm (by omega)
 have f4:=hd_fld k 4 _ 32 5 rfl rfl (dgU_len _ _).symm (by omega)
 have f5:=hd_fld k 5 _ 37 8 rfl rfl (lbD_len _).symm (by omega)
 have f6:=hd_fld k 6 _ 45 8 rfl rfl (lbD_len _).symm (by omega)
 have f7:=hd_fld k 7 _ 53 2 rfl rfl (dgU_len _ _).symm (by omega)
 have f8:=hd_fld k 8 _ 55 2 rfl rfl (dgU_len _ _).symm (by omega)
 obtain ⟨v3,s3,r3⟩:=hv1.sub (a:=27) (b:=32) (by omega) (by omega) (by omega) f3
 obtain ⟨v4,s4,r4⟩:=hv1.sub (a:=32) (b:=37) (by omega) (by omega) (by omega) f4
 obtain ⟨v5,s5,r5⟩:=hv1.sub (a:=37) (b:=45) (by omega) (by omega) (by omega) f5
 have hD:=dgU_len
 have n3:=number_ok (wf_up hw1) r3.up (dgU_isD _ _) (by rw [hD];omega)
 have n4:=number_ok (wf_up hw1) r4.up (dgU_isD _ _) (by rw [hD];omega)
 obtain ⟨k1,k2,k3,k4,k5,k6,k7,k8,k9,k10⟩:=id k
 rw [num_dg 5 (by omega) (by omega)] at n3 n4
 have hHs:=hH1.symm
 rw [hZ] at hHs
 clear hH1
 repeat' (first|refine zz10 @g90.eq_1 @RK hsl.len @d0 @hHs @s3 @s4 @s5 @n3 @n4 ?_|(refine zh (fun hc=>?_) (fun hc=>?_)<;>try simp only [yL] at hc))
 refine zm0 (lab_ok (wf_up hw1) (lbOk_B (rt2_nm k1) k7) r5.up) fun r2 H2 hq=>?_
 obtain ⟨rfl,hS2⟩:=hq
 replace hS2:=Same.down hw1 hS2
 generalize H2.down H1.lim=H2 at *
 have hw2:=hS2.wf
 obtain ⟨v6,s6,r6⟩:=(hv1.same_ hw1 hS2).sub (a:=45) (b:=53) (by omega) (by omega) (by omega) f6
 repeat' (first|refine zz2 @g90.eq_1 @s6 ?_|(refine zh (fun hc=>?_) (fun hc=>?_)<;>try simp only [yL] at hc))
 refine zm0 (lab_ok (wf_up hw2) (lbOk_B (rt2_nm k1) k8) r6.up) fun r3' H3 hq=>?_
 obtain ⟨rfl,hS3⟩:=hq
 replace hS3:=Same.down hw2 hS3
 generalize H3.down H2.lim=H3 at *
 have hw3:=hS3.wf
 have hlim3:=hw3.1
 have hS13:=hS2.trans hS3
 have hv3:=hv1.same_ hw1 hS13
 obtain ⟨v7,s7,r7⟩:=hv3.sub (a:=53) (b:=55) (by omega) (by omega) (by omega) f7
 obtain ⟨v8,s8,r8⟩:=hv3.sub (a:=55) (b:=57) (by omega) (by omega) (by omega) f8
 have n7:=number_ok (wf_up hw3) r7.up (dgU_isD _ _) (by rw [hD];omega)
 have n8:=number_ok (wf_up hw3) r8.up (dgU_isD _ _) (by rw [hD];omega)
 rw [num_dg 2 (by omega) (by omega)] at n7 n8
 obtain ⟨H4,hH4⟩:∃ H4,H4=(H3.add (some (.cells Z 0 true))).put H3.len (.cells (hdC ⟨3,[],[],h.bl,h.gr,h.st,h.fi,h.ro,h.co⟩) 0 true):=⟨_,rfl⟩
 have hS34:Same H3 H4:=hH4 ▸ (Same.refl hw3).new _ _
 have hS4:=hS13.trans hS34
 have hw4:=hS4.wf
 have m4:H4.mine H3.len=some (hdC ⟨3,[],[],h.bl,h.gr,h.st,h.fi,h.ro,h.co⟩,0):=by rw [hH4,mine_put_same (by rw [lim_add];exact hlim3)]
 have hHs4:=hH4.symm
 rw [hZ] at hHs4
 have hv4:=hv1.same_ hw1 hS4
 obtain ⟨v0,s0,r0⟩:=hv4.preM (b:=8) (by omega) (by omega) (hd_fld k 0 _ 0 8 rfl rfl (sigU_len _).symm (by omega))
 have e0:=r0.str
 have c0:=sig_ok (r:=5)
 clear hH4
 have hl34:=hS34.len
 have hl3:H3.len < H4.len:=by rw [← hHs4];simp only [len_put,len_add];omega
 have hl13:=hS13.len
 by_cases h5:h.r=5
 case' pos=>
  have d36:decide (sigU h.r=sigU 5)=true:=decide_eq_true (by rw [h5])
  obtain ⟨H5,hH5⟩:∃ H5,H5=H4.put H3.len (.cells (hdC ⟨5,[],[],h.bl,h.gr,h.st,h.fi,h.ro,h.co⟩) 0 true):=⟨_,rfl⟩
  have m5:H5.mine H3.len=some (hdC ⟨h.r,[],[],h.bl,h.gr,h.st,h.fi,h.ro,h.co⟩,0):=by rw [hH5,h5,mine_put_same (by have:=hS4.lim;have:=hS34.lim;omega)]
  have hS5:Same H1 H5:=by rw [hH5];exact hS4.put hl13 hl3 _
  have hE:=hH5.symm
  have hl5:H3.len < H5.len:=by rw [hH5,len_put];exact hl3
 case' neg=>
  have d36:decide (sigU h.r=sigU 5)=false:=decide_eq_false (by unfold sigU;rw [if_neg h5,if_pos rfl];decide)
  have e3:h.r=3:=by rcases k1 with e|e<;>omega
  obtain ⟨H5,rfl⟩:∃ H5,H5=H4:=⟨_,rfl⟩
  have m5:H5.mine H3.len=some (hdC ⟨h.r,[],[],h.bl,h.gr,h.st,h.fi,h.ro,h.co⟩,0):=by rw [e3];exact m4
  have hS5:=hS4
  have hE:=s0
  have hl5:=hl3
 all_goals
  have hw5:=hS5.wf
  have hlim5:=hw5.1
  have hv5:=hv1.same_ hw1 hS5
  obtain ⟨vL,sL,rL⟩:=hv5.sub (a:=8) (b:=24) (by omega) (by omega) (by omega) (hd_fld k 1 _ 8 16 rfl rfl (by have:=k.lal;simp;omega) (by omega))
  repeat' (first|refine zz19 @g90.eq_1 @RK @hd_fold @hd_set @hd_fill @s7 @s8 @n7 @n8 @hHs4 @s0 @e0 @c0 @d36 @m4 @hd_s0 @hd_len @hE @sL ?_|(refine zh (fun hc=>?_) (fun hc=>?_)<;>try simp only [yL] at hc))
  refine zc0 (trim_ok rL (by have:=k.lal;simp;omega) (by have:=k.lal;simp;omega) (fun c hc=>k2.elim (fun e=>by rw [e] at hc;cases hc) (fun e=>nameF_ne e c hc))) fun rT HT hq=>?_
  obtain ⟨hrT,rfl⟩:=hq
  have eT:=hrT.str
  obtain ⟨H6,hH6⟩:∃ H6,H6=HT.put H3.len (.cells (hdC ⟨h.r,h.la,[],h.bl,h.gr,h.st,h.fi,h.ro,h.co⟩) 0 true):=⟨_,rfl⟩
  have hS6:Same H1 H6:=by rw [hH6];exact hS5.put hl13 hl5 _
  have m6:H6.mine H3.len=some (hdC ⟨h.r,h.la,[],h.bl,h.gr,h.st,h.fi,h.ro,h.co⟩,0):=by rw [hH6,mine_put_same (mine_obj m5).1]
  have hHs6:=hH6.symm
  have hl6:H3.len < H6.len:=by rw [hH6,len_put];exact hl5
  clear hH6
  have hw6:=hS6.wf
  have hv6:=hv1.same_ hw1 hS6
  have htl:=k.tl2
  obtain ⟨vN,sN,rN⟩:=hv6.sub (a:=24) (b:=27) (by omega) (by omega) (by omega) (hd_fld k 2 _ 24 3 rfl rfl (dgU_len _ _).symm (by omega))
  have nN:=number_ok hw6 rN (dgU_isD _ _) (by rw [hD];omega)
  rw [num_dg 3 (by omega) (by omega)] at nN
  obtain ⟨vT,sT,rT'⟩:=hv6.sub (a:=64) (b:=min (64+((hdT h).length:Int)) 1024) (m:=hdT h) (by omega) (by omega) (by omega) (by
   rw [show (min (64+((hdT h).length:Int)) 1024).toNat - (64:Int).toNat=(hdT h).length by omega]
   exact hd_fld k 10 _ 64 _ rfl rfl rfl (by omega))
  have hT:ints .u8 (encA (rns (strB h.ti)))=u8s (hdT h):=bU_ints fun n hn=>okByte_le ((decA_enc (vldB_mem k.ti)).1 n hn)
  have hTl:(encA (rns (strB h.ti))).length=(hdT h).length:=by rw [hdT,bU_len]
  have rT2:GArg1 H6 1 vT (encA (rns (strB h.ti))).length (ints .u8 (encA (rns (strB h.ti)))):=by rw [hT,hTl];exact rT'
  obtain ⟨q1,q2⟩:=hdT_dec k
  repeat' (first|refine zz10 @g90.eq_1 @RK @eT @m5 @hd_s1 @hd_len @hHs6 @sN @nN @sT ?_|(refine zh (fun hc=>?_) (fun hc=>?_)<;>try simp only [yL] at hc))
  refine zc0 (decode_ok hw6 rT2 (fun n hn=>okByte_le ((decA_enc (vldB_mem k.ti)).1 n hn)) (by omega)) fun r7' H7 hq=>?_
  obtain ⟨rfl,hS67⟩:=hq
  rw [q1,q2]
  have hS7:=hS6.trans hS67
  have hw7:=hS7.wf
  have m7:=hS67.mine hl6
  rw [m6] at m7
  have hl7:=hS67.len
  obtain ⟨H8,hH8⟩:∃ H8,H8=H7.put H3.len (.cells (hdC h) 0 true):=⟨_,rfl⟩
  have hS8:Same H1 H8:=by rw [hH8];exact hS7.put hl13 (by omega) _
  have p8:H8.rdn H3.len 0 17=some (hdV h):=by rw [hH8];exact hd_p17
  have hl8:H3.len < H8.len:=by rw [hH8,len_put];omega
  have hHs8:=hH8.symm
  clear hH8
  have hw8:=hS8.wf
  repeat' (first|refine zz7 @g90.eq_1 @RK @m7 @hd_s2 @hd_len @hHs8 @p8 ?_|(refine zh (fun hc=>?_) (fun hc=>?_)<;>try simp only [yL] at hc))
  refine zc0 (puth_ok hw8 k) fun r9 H9 hq=>?_
  obtain ⟨vP,rfl,hO9⟩:=hq
  have hS9:=hS8.trans hO9.same
  have c9:=bEq_ok (hv1.same_ hw1 hS9) hO9.rb
  have d9:decide (hdB h=hdB h)=true:=decide_eq_true rfl
  have p9:=(hO9.same.rdn hl8).trans p8
  have m9:=hS9.mine (i:=H.len) (by rw [← hHs,len_add];omega)
  rw [m1] at m9
  have hll9:=hS9.len
  have z0:decide (¬ True)=false:=rfl
  repeat' (first|refine zz10 @g90.eq_1 @RK @z0 @c9 @d9 @p9 @m9 @hd_set @hZl @hd_p17 ?_|(refine zh (fun hc=>?_) (fun hc=>?_)<;>try simp only [yL] at hc))
  exact hPost _ _ ⟨rfl,(hS1.trans hS9).put (Nat.le_refl _) (by have:=hS1.len;rw [← hHs,len_add] at hll9;omega) _⟩
end Go.Gh
end
section
namespace Go.Gh
set_option linter.unusedSimpArgs false
set_option linter.unusedVariables false
set_option maxHeartbeats 4000000
open Go.RowKit
set_option maxRecDepth 4000
theorem ix_none:∀ {l:List UInt8} {c:UInt8},(∀ x ∈ l,x≠c)→Go.Lib.indexByte l c=-1
 |[],_,_=>rfl
 |x :: l,c,h=>by
  have ih:=ix_none (l:=l) (c:=c) fun y hy=>h y (by simp [hy])
  have hx:(x == c)=false:=beq_eq_false_iff_ne.2 (h x (by simp))
  simp [Go.Lib.indexByte,ih,hx]
theorem ix_at:∀ {a b:List UInt8} {c:UInt8},(∀ x ∈ a,x≠c)→Go.Lib.indexByte (a ++ c :: b) c=a.length
 |[],b,c,_=>by simp [Go.Lib.indexByte]
 |x :: a,b,c,h=>by
  have ih:=ix_at (a:=a) (b:=b) (c:=c) fun y hy=>h y (by simp [hy])
  have hx:(x == c)=false:=beq_eq_false_iff_ne.2 (h x (by simp))
  have h1:((a.length:Int) == -1)=false:=beq_eq_false_iff_ne.2 (by omega)
  simp only [List.cons_append,Go.Lib.indexByte,ih,hx,h1,Bool.false_eq_true,if_false,List.length_cons]
  omega
theorem rb_cs {H:GHeap} {v:Value} {l:List UInt8} (h:RB H v l) (h0:l≠[]):∃ i o gc cs,v=.slice (some ⟨i,o,none⟩) l.length gc∧H.cs i=some cs∧(cs.drop o).take l.length=u8s l:=by
 have hc:=h.cells
 have hp:0 < l.length:=List.length_pos_iff.2 h0
 obtain ⟨hl,a,gc,e,h3⟩:=h.rd
 cases a with
 |none=>subst e;simp only [gcells] at hc;have:=congrArg (Option.map List.length) hc;simp [u8s_length] at this;omega
 |some a=>
  obtain ⟨i,o,fd⟩:=a
  cases fd with
  |some f=>subst e;simp [gcells] at hc
  |none=>
   subst e
   simp only [gcells,Nat.mul_one] at hc
   rw [if_neg (by omega)] at hc
   cases hcs:H.cs i with
   |none=>rw [hcs] at hc;cases hc
   |some cs=>
    rw [hcs] at hc
    simp only at hc
    split at hc
    ·exact ⟨i,o,gc,cs,rfl,hcs,by injection hc⟩
    ·cases hc
theorem ib_ok {H:GHeap} {v:Value} {l:List UInt8} (hv:RB H v l) (h0:v=.slice none 0 0∨l≠[]) (hn:∀ c ∈ l,c≠143):gev G 86 [v,.int .u8 143] H=some (.int .i64 (-1),H):=by
 refine gev_ext (f:=86) rfl ?_
 by_cases h:l=[]
 ·obtain rfl:=h0.resolve_right (fun k=>k h)
  rfl
 ·obtain ⟨i,o,gc,cs,rfl,h1,h2⟩:=rb_cs hv h
  obtain ⟨n,hn'⟩:∃ n,l.length=n+1:=⟨l.length - 1,by have:=List.length_pos_iff.2 h;omega⟩
  rw [hn'] at h2 ⊢
  simp only [runIB,h1,h2,rdB_u8s,hn',if_true]
  rw [show ((143:Int).toNat.toUInt8)=143 from rfl,ix_none hn]
theorem ix_ok {H:GHeap} {v w:Value} {a b:List UInt8} (hv:RB H v (a ++ 143 :: b)) (hw:RB H w [143]) (hn:∀ c ∈ a,c≠143):gev G 185 [v,w] H=some (.int .i64 a.length,H):=by
 refine gev_ext (f:=185) rfl ?_
 obtain ⟨i,o,gc,cs,rfl,h1,h2⟩:=rb_cs hv (by simp)
 obtain ⟨j,p,gd,ds,rfl,h3,h4⟩:=rb_cs hw (by simp)
 obtain ⟨n,hn'⟩:∃ n,(a ++ 143 :: b).length=n+1:=⟨(a ++ 143 :: b).length - 1,by simp only [List.length_append,List.length_cons];omega⟩
 have h5:ds[p]? =some (.int .u8 143):=by
  have:=congrArg (fun z=>z[0]?) h4
  simpa [u8s] using this
 rw [hn'] at h2 ⊢
 simp only [List.length_singleton,runIx,h1,h3,h2,rdB_u8s,h5,hn',if_true]
 rw [show ((143:Int).toNat.toUInt8)=143 from rfl,ix_at hn]
structure Bk where
 n:Nat
 x:Int
 i:Lb
 o:Lb
 r:Int
 al:Int
 t:List UInt8
deriving Inhabited
structure BkOk (b:Bk):Prop where
 n:b.n≤255
 x:0≤b.x∧b.x≤255∧(b.x < 240∨b.x=255)
 i:lbB b.i
 o:lbB b.o
 r:0≤b.r∧b.r < 15
 al:1≤b.al∧b.al≤3
 tl:b.t.length≤112
 tb:∀ c ∈ b.t,c≠143
def bkC (v:Value) (b:Bk):List Value:=[.int .i64 0,.int .i64 b.n,.int .u8 b.x,.int .u8 0,.int .i64 b.i.h,.int .i64 b.i.m,.int .i64 b.i.s,.int .i64 b.i.f,.bool false,.int .i64 b.o.h,.int .i64 b.o.m,.int .i64 b.o.s,.int .i64 b.o.f,.bool false,.int .i64 b.r,.int .u8 b.al,.bool false,v]
def bkV (v:Value) (b:Bk):Value:=.agg (bkC v b).toArray
section
variable {H:GHeap} {v:Value} {b:Bk} {u:Nat} {q:Bool}
theorem bk_list:(bkV v b).cells.toList=bkC v b:=rfl
theorem bk_all (hf:flatV v=true):(bkV v b).cells.all flatV=true:=by
 rw [← Array.all_toList,bk_list];simp [bkC,flatV_int,flatV_bool,hf]
theorem bkC_0:(bkC v b)[0]? =some (.int .i64 0):=rfl
theorem bkC_1:(bkC v b)[1]? =some (.int .i64 b.n):=rfl
theorem bkC_2:(bkC v b)[2]? =some (.int .u8 b.x):=rfl
theorem bkC_3:(bkC v b)[3]? =some (.int .u8 0):=rfl
theorem bkC_4:(bkC v b)[4]? =some (.int .i64 b.i.h):=rfl
theorem bkC_5:(bkC v b)[5]? =some (.int .i64 b.i.m):=rfl
theorem bkC_6:(bkC v b)[6]? =some (.int .i64 b.i.s):=rfl
theorem bkC_7:(bkC v b)[7]? =some (.int .i64 b.i.f):=rfl
theorem bkC_8:(bkC v b)[8]? =some (.bool false):=rfl
theorem bkC_9:(bkC v b)[9]? =some (.int .i64 b.o.h):=rfl
theorem bkC_10:(bkC v b)[10]? =some (.int .i64 b.o.m):=rfl
theorem bkC_11:(bkC v b)[11]? =some (.int .i64 b.o.s):=rfl
theorem bkC_12:(bkC v b)[12]? =some (.int .i64 b.o.f):=rfl
theorem bkC_13:(bkC v b)[13]? =some (.bool false):=rfl
theorem bkC_14:(bkC v b)[14]? =some (.int .i64 b.r):=rfl
theorem bkC_15:(bkC v b)[15]? =some (.int .u8 b.al):=rfl
theorem bkC_16:(bkC v b)[16]? =some (.bool false):=rfl
theorem bkC_17:(bkC v b)[17]? =some v:=rfl
theorem bk_r4 {j:Nat} (e:H.len=j):(H.add (some (.cells (bkC v b) u q))).rdn j 4 5=some (lbV b.i):=by simp only [GHeap.rdn,cs_add_eq e];rfl
theorem bk_r9 {j:Nat} (e:H.len=j):(H.add (some (.cells (bkC v b) u q))).rdn j 9 5=some (lbV b.o):=by simp only [GHeap.rdn,cs_add_eq e];rfl
theorem bk_r18 {j:Nat} (e:H.len=j):(H.add (some (.cells (bkC v b) u q))).rdn j 0 18=some (bkV v b):=rdn_add_all e rfl
theorem bk_p18 {j:Nat}:(H.put j (.cells (bkC v b) u q)).rdn j 0 18=some (bkV v b):=rdn_put_all rfl
theorem bk_set {cs:List Value} (e:cs.length=18) (hf:flatV v=true):gsetn cs 0 18 (bkV v b)=some (bkC v b):=gsetn_all e rfl (by simp [bkC,flatV_int,flatV_bool,hf])
theorem bk_s17 {w:Value} (hf:flatV w=true):gset (bkC v b) 17 w=some (bkC w b):=gset_ok (by simp [bkC]) hf
theorem bk_len:(bkC v b).length=18:=rfl
theorem bk_fold:Value.agg (bkC v b).toArray=bkV v b:=rfl
end
theorem RBk:type_of% (And.intro (And.intro (And.intro (And.intro @bk_list @bkC_0) (And.intro @bkC_1 @bkC_2)) (And.intro (And.intro @bkC_3 @bkC_4) (And.intro @bkC_5 @bkC_6))) (And.intro (And.intro (And.intro (And.intro @bkC_7 @bkC_8) (And.intro @bkC_9 @bkC_10)) (And.intro (And.intro @bkC_11 @bkC_12) (And.intro @bkC_13 @bkC_14))) (And.intro (And.intro (And.intro @bkC_15 @bkC_16) (And.intro @bkC_17 @bk_r4)) (And.intro (And.intro @bk_r9 @bk_r18) (And.intro @bk_p18 (And.intro @bk_len @bk_fold)))))):=⟨⟨⟨⟨@bk_list,@bkC_0⟩,⟨@bkC_1,@bkC_2⟩⟩,⟨⟨@bkC_3,@bkC_4⟩,⟨@bkC_5,@bkC_6⟩⟩⟩,⟨⟨⟨⟨@bkC_7,@bkC_8⟩,⟨@bkC_9,@bkC_10⟩⟩,⟨⟨@bkC_11,@bkC_12⟩,⟨@bkC_13,@bkC_14⟩⟩⟩,⟨⟨⟨@bkC_15,@bkC_16⟩,⟨@bkC_17,@bk_r4⟩⟩,⟨⟨@bk_r9,@bk_r18⟩,⟨@bk_p18,⟨@bk_len,@bk_fold⟩⟩⟩⟩⟩⟩
theorem timed_ok {x:Lb} (hx:lbB x) (H:GHeap):gev G 138 [lbV x] H=some (.int .i64 0,H):=by
 refine gev_GWP (f:=138) rfl (by simp [lbV,litOk,litFlat]) rfl (fun Post hPost=>?_) H
 simp only [frameOf,Nat.reduceAdd]
 have hw:=root_wf
 have hlim:=hw.1
 obtain ⟨a1,a2,a3,a4⟩:=hx
 have d0:decide (x.h < 0)=false:=decide_eq_false (by omega)
 have d1:decide (23 < x.h)=false:=decide_eq_false (by omega)
 have d2:decide (x.m < 0)=false:=decide_eq_false (by omega)
 have d3:decide (59 < x.m)=false:=decide_eq_false (by omega)
 have d4:decide (x.s < 0)=false:=decide_eq_false (by omega)
 have d5:decide (59 < x.s)=false:=decide_eq_false (by omega)
 have d6:decide (x.f < 0)=false:=decide_eq_false (by omega)
 have d7:decide (29 < x.f)=false:=decide_eq_false (by omega)
 repeat' (first|refine zz10 @g138.eq_1 @RLb @d0 @d1 @d2 @d3 @d4 @d5 @d6 @d7 ?_|(refine zh (fun hc=>?_) (fun hc=>?_)<;>try simp only [yL] at hc))
 exact hPost _
structure BkR (H:GHeap) (v:Value) (b:Bk):Prop where
 rb:RB H v b.t
 nil:v=.slice none 0 0∨b.t≠[]
theorem BkR.flat {H:GHeap} {v:Value} {b:Bk} (h:BkR H v b):flatV v=true:=GArg1.flat h.rb
theorem BkR.later {H H':GHeap} {v:Value} {b:Bk} (h:BkR H v b) (hw:H.wf) (hs:Same H H'):BkR H' v b:=⟨h.rb.same_ hw hs,h.nil⟩
theorem bchk_ok {H:GHeap} (hw:H.wf) {v:Value} {b:Bk} (hb:BkR H v b) (k:BkOk b):∃ r H',gev G 85 [bkV v b] H=some (r,H')∧(r=.int .i64 0∧Same H H'):=by
 refine gev_GW (f:=85) rfl fun Post hPost=>?_
 have hlim:=hw.1
 have hf:=bk_all (b:=b) hb.flat
 simp only [frameOf,Nat.reduceAdd]
 have hS1:Same H (H.add (some (.cells (bkC v b) 0 true))):=(Same.refl hw).add _
 have hb1:=hb.later hw hS1
 have hsl:=hb1.rb.isSl
 have e1:=ib_ok hb1.rb hb1.nil k.tb
 obtain ⟨k1,k2,k3,k4,k5,k6,k7,k8⟩:=k
 have t1:=timed_ok k3
 have t2:=timed_ok k4
 have d1:decide ((b.n:Int) < 0)=false:=decide_eq_false (by omega)
 have d2:decide ((65535:Int) < b.n)=false:=decide_eq_false (by omega)
 have d3:decide (240≤b.x)=true→decide (b.x < 255)=false:=fun h=>decide_eq_false (by simp only [decide_eq_true_eq] at h;omega)
 have d4:decide (b.r < 0)=false:=decide_eq_false (by omega)
 have d5:decide (15≤b.r)=false:=decide_eq_false (by omega)
 have d6:decide (b.al < 1)=false:=decide_eq_false (by omega)
 have d7:decide (3 < b.al)=false:=decide_eq_false (by omega)
 have d8:decide ((112:Int) < b.t.length)=false:=decide_eq_false (by omega)
 have d9:decide (0≤(-1:Int))=false:=rfl
 have z0:decide ((255:Int) < 0)=false:=rfl
 have z1:decide ((3:Int) < 0)=false:=rfl
 have z2:decide ((0:Int) < 0)=false:=rfl
 have z3:decide (¬ True)=false:=rfl
 by_cases hx:240≤b.x
 case' pos=>
  have q1:decide (240≤b.x)=true:=decide_eq_true hx
  have q2:=d3 q1
 case' neg=>
  have q1:decide (240≤b.x)=false:=decide_eq_false hx
  have q2:=q1
 all_goals
  repeat' (first|refine zz22 @g85.eq_1 @RK @RBk @hf hsl.len @e1 @t1 @t2 @d1 @d2 @d4 @d5 @d6 @d7 @d8 @d9 @z0 @z1 @z2 @z3 @q1 @q2 ?_|(refine zh (fun hc=>?_) (fun hc=>?_)<;>try simp only [yL] at hc))
  exact hPost _ _ ⟨rfl,hS1⟩
end Go.Gh
end
