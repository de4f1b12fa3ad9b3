/-
  Parts of the proof: walks of the ghost functions and the laws of what they compute. No condition.
-/
import Derived.Test.YtjjcgaompnjbdaaGreatDoorQ6
import Derived.Test.YtjjcgaompnjbdaaGreatDoorQ3
import Derived.Test.YtjjcgaompnjbdaaGreatDoorQ4
section
namespace Go.Gh
set_option linter.unusedSimpArgs false
set_option linter.unusedVariables false
set_option maxHeartbeats 4000000
open Go.RowKit
set_option maxRecDepth 4000
theorem ix2_0 {a b:Value} {k:IntKind}:gix (some (2,1,none)) (.agg #[a,b]) (.int k 0)=some a:=rfl
theorem ix2_1 {a b:Value} {k:IntKind}:gix (some (2,1,none)) (.agg #[a,b]) (.int k 1)=some b:=rfl
theorem getA_s {c:Int} {t:List Int} {i:Nat} (h:¬ (32≤c∧c < 127)) (hf:fnd SBY c=some i):getA (c :: t)=(((SCH[i]!:Nat):Int),1):=by simp only [getA];rw [if_neg h,hf]
theorem getA_n {c:Int} (h:¬ (32≤c∧c < 127)) (hf:fnd SBY c=none):getA [c]=(0,0):=by simp only [getA];rw [if_neg h,hf]
theorem getA_y {c d x:Int} {t:List Int} (h:¬ (32≤c∧c < 127)) (hf:fnd SBY c=none) (hk:lk d (ACC c)=some x):getA (c :: d :: t)=(x,2):=by simp only [getA];rw [if_neg h,hf,hk]
theorem getA_z {c d:Int} {t:List Int} (h:¬ (32≤c∧c < 127)) (hf:fnd SBY c=none) (hk:lk d (ACC c)=none):getA (c :: d :: t)=(0,0):=by simp only [getA];rw [if_neg h,hf,hk]
theorem lowA_le {x:Nat} (h:x≤1114111):-2147483648≤lowA x∧lowA x≤2147483647:=by
 unfold lowA
 (repeat' split)<;>omega
theorem get_ok {H:GHeap} (hw:H.wf) {v:Value} {l:List Int} (hv:GRd H 1 v l.length (ints .u8 l)) (hl:∀ n ∈ l,0≤n∧n≤255) (hn:l.length≤4611686018427387904):
 ∃ r H',gev G 155 [v] H=some (r,H')∧(r=.tuple #[.int .i32 (getA l).1,.int .i64 (getA l).2]∧Same H H'):=by
 refine gev_GW (f:=155) rfl fun Post hPost=>?_
 have hP:∀ p:Int × Int,getA l=p→∀ H',Same H H'→Post (.tuple #[.int .i32 p.1,.int .i64 p.2]) H':=fun p e H' h=>hPost _ H' ⟨by rw [e],h⟩
 clear hPost
 have hlim:=hw.1
 have hsl:=hv.isSl
 simp only [frameOf,Nat.reduceAdd]
 cases l with
 |nil=>
  repeat' (first|(exfalso;omega)|refine zz3 @g155.eq_1 hsl.len @List.length_nil.{0} ?_|(refine zh (fun hc=>?_) (fun hc=>?_)<;>try simp only [yL] at hc))
  exact hP (0,0) rfl _ (Same.refl hw)
 |cons c t=>
  have hlen:(c :: t).length=t.length+1:=rfl
  have hc0:=hl c (by simp)
  have rd0:∀ {H':GHeap},Same H H'→H'.rd (blk v) (ofs v)=some (.int .u8 c):=fun h=>by
   have:=(hv.same h).rd (c:=0) (by rw [ints_length];simp)
   rwa [ints_at (by simp)] at this
  have hr0:=rd0 (Same.refl hw)
  repeat' (first|(exfalso;omega)|refine zz5 @g155.eq_1 hsl.len hsl.ix @hr0 @List.length_cons.{0} ?_|(refine zh (fun hc=>?_) (fun hc=>?_)<;>try simp only [yL] at hc))
  case cons.refine_1.refine_1=>exact hP (c,1) (by simp only [getA];rw [if_pos (by omega)]) _ (Same.refl hw)
  all_goals
   have hnc:¬ (32≤c∧c < 127):=by omega
   refine GW_loop (fun k fr H2=>∃ (n:Nat) (p:Value),k=31 - n∧n≤31∧fr.get 0=some (v)∧fr.get 4=some (.int .i64 n)∧fr.get 28=some (p)∧ItAt H2 p (SCH.drop n)∧fnd SBY c=(fnd (SBY.drop n) c).map (·+n)∧Same H H2∧H.len≤itId p) ?_ 31 ?_
   rotate_left
   ·refine ⟨0,.pointer (some ⟨H.len,0,none⟩),rfl,by omega,?_⟩
    simp only [↓yG,Nat.reduceEqDiff,↓reduceIte,Int.natCast_add,Int.cast_ofNat_Int,Int.natCast_zero,true_and,and_true,Option.some.injEq,Value.int.injEq]
    exact ⟨rns_sch ▸ ItAt.new (H:=H) (s:=schS) hlim,by simp,(Same.refl hw).add _,Nat.le_refl _⟩
   rintro k fr H2 ⟨n,p,rfl,hn0,f0,f4,f28,hI,hf,hS,hp⟩ J hJ
   by_cases hn1:n < 31
   ·rw [drop_bang (l:=SCH) hn1] at hI
    obtain ⟨pos,o,hx,hI',hx'⟩:=hI.cons
    have hlt:=hI.lt hS.wf
    have hS2:Same H (H2.put (itId p) o):=hS.put hp hlt o
    have hix:=fun k=>str_ix (S:=sbyS) sby_at (k:=k) (j:=n) hn1
    unfold sbyS at hix
    have hr2:=rd0 hS2
    repeat' (first|(exfalso;omega)|refine zz8 @g155.eq_1 @f0 @f4 @f28 @hx @hix hsl.ix @hr2 ?_|(refine zh (fun hc=>?_) (fun hc=>?_)<;>try simp only [yL] at hc))
    all_goals first
     |exact hP (((SCH[n]!:Nat):Int),1) (getA_s hnc (fnd_yes hf hn1 (by assumption))) _ hS2
     |(refine hJ _ _ ⟨31 - (n+1),by omega,n+1,p,rfl,by omega,?_⟩
       simp only [↓yG,Nat.reduceEqDiff,↓reduceIte,Int.natCast_add,Int.cast_ofNat_Int,Int.natCast_zero,true_and,and_true,Option.some.injEq,Value.int.injEq,f0,f28]
       exact ⟨hI',fnd_no hf hn1 (by assumption),hS2,hp⟩)
   ·obtain rfl:n=31:=by omega
    have hfn:fnd SBY c=none:=fnd_end hf (Nat.le_refl _)
    have hx:=ItAt.nil (v:=p) (H:=H2) (by simpa [SCH] using hI)
    have hr2:=rd0 hS
    cases t with
    |nil=>
     repeat' (first|(exfalso;omega)|refine zz8 @g155.eq_1 @f0 @f4 @f28 @hx hsl.len @List.length_cons.{0} @List.length_nil.{0} ?_|(refine zh (fun hc=>?_) (fun hc=>?_)<;>try simp only [yL] at hc))
     exact hP (0,0) (getA_n hnc hfn) _ hS
    |cons d t=>
     have hd0:=hl d (by simp)
     have rd1:∀ {H':GHeap},Same H H'→H'.rd (blk v) (ofs v+1)=some (.int .u8 d):=fun h=>by
      have:=(hv.same h).rd (c:=1) (by rw [ints_length];simp)
      rwa [ints_at (by simp)] at this
     have hlim2:=hS.wf.1
     repeat' (first|(exfalso;omega)|refine zz9 @g155.eq_1 @f0 @f4 @f28 @hx hsl.len hsl.ix @hr2 @List.length_cons.{0} ?_|(refine zh (fun hc=>?_) (fun hc=>?_)<;>try simp only [yL] at hc))
     refine zc3 @f0 @f4 @f28 (one_of (acc_ok hc0 _)) fun r2 H3 hq=>?_
     obtain ⟨rfl,rfl⟩:=hq
     repeat' (first|refine zz4 @g155.eq_1 @f0 @f4 @f28 ?_|(refine zh (fun hc=>?_) (fun hc=>?_)<;>try simp only [yL] at hc))
     refine GW_loop (fun k fr H4=>∃ (rest:List Nat) (p2:Value),k=rest.length∧fr.get 0=some (v)∧fr.get 48=some (p2)∧ItAt H4 p2 rest∧lk d (ACC c)=lk d rest∧Same H H4∧H.len≤itId p2) ?_ (ACC c).length ?_
     rotate_left
     ·refine ⟨ACC c,.pointer (some ⟨H3.len,0,none⟩),rfl,?_⟩
      simp only [↓yG,Nat.reduceEqDiff,↓reduceIte,Int.natCast_add,Int.cast_ofNat_Int,Int.natCast_zero,true_and,and_true,Option.some.injEq,Value.int.injEq,f0]
      exact ⟨rns_acc c ▸ ItAt.new (H:=H3) (s:=accS c) hlim2,hS.add _,hS.len⟩
     rintro k fr2 H4 ⟨rest,p2,rfl,e0,e48,hI2,hlk,hS4,hp2⟩ J2 hJ2
     cases rest with
     |nil=>
      have hx2:=hI2.nil
      repeat' (first|(exfalso;omega)|refine zz4 @g155.eq_1 @e0 @e48 @hx2 ?_|(refine zh (fun hc=>?_) (fun hc=>?_)<;>try simp only [yL] at hc))
      exact hP (0,0) (getA_z hnc hfn hlk) _ hS4
     |cons x rest=>
      obtain ⟨pos,o,hx2,hI',hx'⟩:=hI2.cons
      have hlt:=hI2.lt hS4.wf
      have hS5:Same H (H4.put (itId p2) o):=hS4.put hp2 hlt o
      repeat' (first|(exfalso;omega)|refine zz4 @g155.eq_1 @e0 @e48 @hx2 ?_|(refine zh (fun hc=>?_) (fun hc=>?_)<;>try simp only [yL] at hc))
      refine zc2 @e0 @e48 (one_of (lower_ok (r:=(x:Int)) (by omega) _)) fun r2 H6 hq=>?_
      obtain ⟨rfl,rfl⟩:=hq
      have hlow:=lowA_le hx'
      have hr5:=rd1 hS5
      have hlk2:lk d (x :: rest)=if basA x=d then some (x:Int) else if basA (lowA x)=d then some (lowA x) else lk d rest:=rfl
      repeat' (first|refine zz3 @g155.eq_1 @e0 @e48 ?_|(refine zh (fun hc=>?_) (fun hc=>?_)<;>try simp only [yL] at hc))
      obtain ⟨HX,hHX⟩:∃ HX,HX=H4.put (itId p2) o:=⟨_,rfl⟩
      rw [← hHX] at hI' hS5 hr5
      rw [← hHX]
      have conv8:gconv (.int .i32) HX (.int .u8 d)=some (.int .i32 d,none):=by rw [gcv_int,wr_i32 (by omega)]
      refine GW_loop (fun k fr H5=>∃ (j:Nat),k=2 - j∧j≤2∧fr.get 0=some (v)∧fr.get 48=some (p2)∧fr.get 55=some (.agg #[.int .i32 (x:Int),.int .i32 (lowA x)])∧fr.get 56=some (.int .i64 j)∧H5=HX∧(1≤j→¬ basA x=d)∧(2≤j→¬ basA (lowA x)=d)) ?_ 2 ?_
      rotate_left
      ·refine ⟨0,rfl,by omega,?_⟩
       simp only [↓yG,Nat.reduceEqDiff,↓reduceIte,Int.natCast_add,Int.cast_ofNat_Int,Int.natCast_zero,true_and,and_true,Option.some.injEq,Value.int.injEq,e0,e48]
       exact ⟨by omega,by omega⟩
      rintro k fr3 H5 ⟨j,rfl,hj,i0,i48,i55,i56,rfl,hb1,hb2⟩ J3 hJ3
      rcases (show j=0∨j=1∨j=2 by omega) with rfl|rfl|rfl
      ·replace i56:fr3.get 56=some (.int .i64 0):=i56
       repeat' (first|(exfalso;omega)|refine zz6 @g155.eq_1 @i0 @i48 @i55 @i56 @ix2_0 ?_|(refine zh (fun hc=>?_) (fun hc=>?_)<;>try simp only [yL] at hc))
       refine zm4 @i0 @i48 @i55 @i56 (one_of (base_ok (r:=(x:Int)) (by omega) _)) fun r2 H6 hq=>?_
       obtain ⟨rfl,rfl⟩:=hq
       rw [updown]
       repeat' (first|refine zz9 @g155.eq_1 @i0 @i48 @i55 @i56 hsl.ix @hr5 @conv8 @List.length_cons.{0} ?_|(refine zh (fun hc=>?_) (fun hc=>?_)<;>try simp only [yL] at hc))
       all_goals first
        |exact hP (x,2) (getA_y hnc hfn (by rw [hlk,hlk2,if_pos (by assumption)])) _ hS5
        |(refine hJ3 _ _ ⟨1,by omega,1,rfl,by omega,?_⟩
          simp only [↓yG,Nat.reduceEqDiff,↓reduceIte,Int.natCast_add,Int.cast_ofNat_Int,Int.natCast_zero,true_and,and_true,Option.some.injEq,Value.int.injEq,i0,i48,i55]
          exact ⟨by omega,fun _=>by assumption,by omega⟩)
      ·replace i56:fr3.get 56=some (.int .i64 1):=i56
       repeat' (first|(exfalso;omega)|refine zz6 @g155.eq_1 @i0 @i48 @i55 @i56 @ix2_1 ?_|(refine zh (fun hc=>?_) (fun hc=>?_)<;>try simp only [yL] at hc))
       refine zm4 @i0 @i48 @i55 @i56 (one_of (base_ok (r:=lowA (x:Int)) hlow _)) fun r2 H6 hq=>?_
       obtain ⟨rfl,rfl⟩:=hq
       rw [updown]
       repeat' (first|refine zz9 @g155.eq_1 @i0 @i48 @i55 @i56 hsl.ix @hr5 @conv8 @List.length_cons.{0} ?_|(refine zh (fun hc=>?_) (fun hc=>?_)<;>try simp only [yL] at hc))
       all_goals first
        |exact hP (lowA x,2) (getA_y hnc hfn (by rw [hlk,hlk2,if_neg (hb1 (by omega)),if_pos (by assumption)])) _ hS5
        |(refine hJ3 _ _ ⟨0,by omega,2,rfl,by omega,?_⟩
          simp only [↓yG,Nat.reduceEqDiff,↓reduceIte,Int.natCast_add,Int.cast_ofNat_Int,Int.natCast_zero,true_and,and_true,Option.some.injEq,Value.int.injEq,i0,i48,i55]
          exact ⟨by omega,fun _=>hb1 (by omega),fun _=>by assumption⟩)
      ·replace i56:fr3.get 56=some (.int .i64 2):=i56
       repeat' (first|(exfalso;omega)|refine zz5 @g155.eq_1 @i0 @i48 @i55 @i56 ?_|(refine zh (fun hc=>?_) (fun hc=>?_)<;>try simp only [yL] at hc))
       refine hJ2 _ _ ⟨rest.length,by simp,rest,p2,rfl,?_⟩
       simp only [↓yG,Nat.reduceEqDiff,↓reduceIte,Int.natCast_add,Int.cast_ofNat_Int,Int.natCast_zero,true_and,and_true,Option.some.injEq,Value.int.injEq,i0,i48]
       exact ⟨hI',by rw [hlk,hlk2,if_neg (hb1 (by omega)),if_neg (hb2 (by omega))],hS5,hp2⟩
set_option maxRecDepth 4000
def encA (l:List Nat):List Int:=l.flatMap fun (x:Nat)=>putA (x:Int)
theorem encA_snoc (l:List Nat) (x:Nat):encA (l ++ [x])=encA l ++ putA (x:Int):=by simp [encA]
theorem putA_len (r:Int):(putA r).length≤2:=by
 unfold putA
 (repeat' split)<;>simp
theorem encA_len:∀ l:List Nat,(encA l).length≤2 * l.length
 |[]=>by simp [encA]
 |x :: l=>by
  have h1:=encA_len l
  have h2:=putA_len (x:Int)
  simp only [encA,List.flatMap_cons,List.length_append,List.length_cons] at h1 ⊢
  omega
theorem ints_append (k:IntKind) (a b:List Int):ints k (a ++ b)=ints k a ++ ints k b:=by simp [ints]
theorem encode_ok {H:GHeap} (hw:H.wf) {s:ByteArray} (hs:s.size≤1099511627776) {b:Bool} (hv:∀ H,gev G 66 [.string s] H=some (.bool b,H)):
 ∃ r H',gev G 84 [.string s] H=some (r,H')∧∃ v,r=.tuple #[v,.int .i64 (if b then 0 else 10)]∧OS 1 257 H H' v (if b then encA (rns s) else []).length (ints .u8 (if b then encA (rns s) else [])):=by
 refine gev_GW (f:=84) rfl fun Post hPost=>?_
 have hlen:=rns_len s
 have hlim:=hw.1
 simp only [frameOf,Nat.reduceAdd]
 repeat' (first|refine zz1 @g84.eq_1 ?_|(refine zh (fun hc=>?_) (fun hc=>?_)<;>try simp only [yL] at hc))
 refine zc0 (one_of (hv _)) fun r1 H1 hq=>?_
 obtain ⟨rfl,rfl⟩:=hq
 cases b with
 |false=>
  repeat' (first|refine zz1 @g84.eq_1 ?_|(refine zh (fun hc=>?_) (fun hc=>?_)<;>try simp only [yL] at hc))
  exact hPost _ _ ⟨_,rfl,OS.nil (Same.refl hw)⟩
 |true=>
  repeat' (first|refine zz1 @g84.eq_1 ?_|(refine zh (fun hc=>?_) (fun hc=>?_)<;>try simp only [yL] at hc))
  refine GW_loop (fun k fr H2=>∃ (done rest:List Nat) (p v:Value),k=rest.length∧fr.get 4=some (v)∧fr.get 11=some (p)∧ItAt H2 p rest∧OS 1 257 H1 H2 v (encA done).length (ints .u8 (encA done))∧done ++ rest=rns s∧H1.len≤itId p) ?_ (rns s).length ?_
  rotate_left
  ·refine ⟨[],rns s,.pointer (some ⟨H1.len,0,none⟩),.slice none 0 0,rfl,?_⟩
   simp only [↓yG,Nat.reduceEqDiff,↓reduceIte,Int.natCast_add,Int.cast_ofNat_Int,Int.natCast_zero,true_and,and_true,Option.some.injEq,Value.int.injEq]
   exact ⟨ItAt.new hlim,OS.nil ((Same.refl hw).add _),rfl,Nat.le_refl _⟩
  rintro k fr H2 ⟨done,rest,p,v,rfl,f4,f11,hI,hO,hd,hp0⟩ J hJ
  have hw1:=hO.same.wf
  cases rest with
  |nil=>
   have hx:=hI.nil
   repeat' (first|refine zz4 @g84.eq_1 @f4 @f11 @hx ?_|(refine zh (fun hc=>?_) (fun hc=>?_)<;>try simp only [yL] at hc))
   simp only [List.append_nil] at hd
   subst hd
   exact hPost _ _ ⟨_,rfl,hO⟩
  |cons x rest=>
   obtain ⟨pos,o,hx,hI',hx'⟩:=hI.cons
   have hdl:=congrArg List.length hd
   simp only [List.length_append,List.length_cons] at hdl
   repeat' (first|refine zz4 @g84.eq_1 @f4 @f11 @hx ?_|(refine zh (fun hc=>?_) (fun hc=>?_)<;>try simp only [yL] at hc))
   have hlt:=hI.lt hw1
   have hB:But (fun z=>z=itId p) H2 (H2.put (itId p) o):=(But.refl (S:=fun z=>z=itId p) hw1).put (i:=itId p) rfl hlt o
   have hne:∀ a ∈ idOf v,¬ a=itId p:=fun a ha e=>hI.ne (hO.ids ha).2.2 e.symm
   have hO2:=hO.but (S:=fun z=>z=itId p) hB (fun k hk e=>by omega) hne
   refine zc2 @f4 @f11 (put_ok hO2.same.wf (r:=(x:Int)) (by omega)) fun r3 H3 hq3=>?_
   have hO3:=hO2.later hq3.same
   have hle:=encA_len done
   have hl2:=putA_len (x:Int)
   refine Gw_s fun K' hK'=>?_
   simp (disch:=first|exact zd|fail) only [↓yS,yT,↓reduceIte,Nat.reduceEqDiff,Nat.reduceAdd,Nat.reduceMul,reduceCtorEq,Int.reduceToNat,f4,f11]
   obtain ⟨v',H4,e,hO4,hB4⟩:=hO3.appN (by decide) (by decide) hq3.arg (b:=1) (by omega) (by omega)
   refine G1_eq e (hK' _ _ ?_)
   clear hK' K' e
   have hI3:=hI'.keep hq3.same.lim (hq3.same.obj _ (by rw [len_put];exact hlt))
   have hob:H4.obj (itId p)=H3.obj (itId p):=hB4.obj _ (hI3.lt hq3.same.wf) fun ha=>hI3.ne (hO3.ids ha).2.2 rfl
   repeat' (first|refine zz3 @g84.eq_1 @f4 @f11 ?_|(refine zh (fun hc=>?_) (fun hc=>?_)<;>try simp only [yL] at hc))
   refine hJ _ _ ⟨rest.length,by simp,done ++ [x],rest,p,v',rfl,?_⟩
   simp only [↓yG,Nat.reduceEqDiff,↓reduceIte,Int.natCast_add,Int.cast_ofNat_Int,Int.natCast_zero,true_and,and_true,Option.some.injEq,Value.int.injEq,f11]
   refine ⟨hI3.keep hB4.lim hob,?_,by rw [← hd];simp,hp0⟩
   rw [encA_snoc,ints_append,List.length_append]
   exact hO4
end Go.Gh
end
section
namespace Go.Gh
set_option linter.unusedSimpArgs false
set_option linter.unusedVariables false
set_option maxHeartbeats 4000000
set_option maxRecDepth 100000
def okByte (c:Int):Bool:=decide (32≤c∧c≤126∨161≤c∧c≤255)
theorem dtab1:((List.range 256).all fun c=>sngN c == 0 || (decide (0≤sngN c) && REP.contains (sngN c).toNat && putA (sngN c) == [(c:Int)]))=true:=by kernel_rfl
theorem dtab2:((List.range 11).all fun i=>(List.range 256).all fun d=>dblN (193+(i:Int)) d == 0 || (decide (0≤dblN (193+(i:Int)) d) && REP.contains (dblN (193+(i:Int)) d).toNat && putA (dblN (193+(i:Int)) d) == [193+(i:Int),(d:Int)]))=true:=by kernel_rfl
def dput (x:Nat):List Int→Bool
 |[c]=>sngN c == x && okByte c
 |[c,d]=>sngN c == 0 && dblN c d == x && okByte c && okByte d
 |_=>false
theorem dtab3:(REP.all fun x=>dput x (putA x))=true:=by kernel_rfl
theorem rep_nz {x:Nat} (hx:x ∈ REP):¬ ((x:Int)=0):=by have:=(rep_le hx).1;omega
theorem getA_cases {l:List Int} (hl:∀ n ∈ l,0≤n∧n≤255):getA l=(0,0)∨∃ (x n:Nat),x ∈ REP∧getA l=((x:Int),(n:Int))∧1≤n∧n≤l.length∧putA x=l.take n:=by
 rw [get_same hl]
 match l,hl with
 |[],_=>exact .inl rfl
 |c :: t,hl=>
  have hc:=hl c (by simp)
  obtain ⟨a,rfl⟩:∃ a:Nat,c=a:=⟨c.toNat,by omega⟩
  have h1:=List.all_eq_true.1 dtab1 a (List.mem_range.2 (by omega))
  simp only [getB]
  by_cases h0:sngN (a:Int)=0
  ·rw [if_neg (by simpa using h0)]
   cases t with
   |nil=>exact .inl rfl
   |cons d t=>
    have hd:=hl d (by simp)
    simp only
    by_cases h2:dblN (a:Int) d=0
    ·rw [if_neg (by simpa using h2)];exact .inl rfl
    ·rw [if_pos h2]
     have hr:¬ ((a:Int) < 193∨203 < (a:Int)):=fun h=>h2 (dbl_out h)
     obtain ⟨i,hi⟩:∃ i:Nat,(a:Int)=193+(i:Int):=⟨a - 193,by omega⟩
     obtain ⟨e,rfl⟩:∃ e:Nat,d=e:=⟨d.toNat,by omega⟩
     have h3:=List.all_eq_true.1 (List.all_eq_true.1 dtab2 i (List.mem_range.2 (by omega))) e (List.mem_range.2 (by omega))
     rw [← hi] at h3
     simp only [Bool.or_eq_true,Bool.and_eq_true,decide_eq_true_eq,beq_iff_eq,List.contains_iff_mem,h2,false_or] at h3
     obtain ⟨⟨k1,k2⟩,k3⟩:=h3
     have k4:((dblN (a:Int) e).toNat:Int)=dblN a e:=by omega
     refine .inr ⟨(dblN (a:Int) e).toNat,2,k2,by rw [k4];rfl,by omega,by simp,?_⟩
     rw [k4,k3];rfl
  ·rw [if_pos h0]
   simp only [Bool.or_eq_true,Bool.and_eq_true,decide_eq_true_eq,beq_iff_eq,List.contains_iff_mem,h0,false_or] at h1
   obtain ⟨⟨k1,k2⟩,k3⟩:=h1
   have k4:((sngN (a:Int)).toNat:Int)=sngN a:=by omega
   refine .inr ⟨(sngN (a:Int)).toNat,1,k2,by rw [k4];rfl,by omega,by simp,?_⟩
   rw [k4,k3];rfl
theorem okByte_le {c:Int} (h:okByte c=true):0≤c∧c≤255:=by
 unfold okByte at h
 rw [decide_eq_true_eq] at h
 omega
theorem put_ok' {x:Nat} (hx:x ∈ REP):(∀ c ∈ putA x,okByte c=true)∧∀ rest:List Int,(∀ n ∈ rest,0≤n∧n≤255)→getA (putA x ++ rest)=((x:Int),((putA x).length:Int))∧1≤(putA x).length:=by
 have h:=List.all_eq_true.1 dtab3 x hx
 have hnz:=rep_nz hx
 unfold dput at h
 split at h
 ·rename_i c he
  simp only [Bool.and_eq_true,beq_iff_eq] at h
  rw [he]
  refine ⟨fun d hd=>by rw [List.mem_singleton.1 hd];exact h.2,fun rest hr=>⟨?_,by simp⟩⟩
  have hc:=okByte_le h.2
  rw [get_same (fun n hn=>by
   rcases List.mem_append.1 hn with hn|hn
   ·rw [List.mem_singleton.1 hn];exact hc
   ·exact hr n hn)]
  simp only [List.singleton_append,getB]
  rw [if_pos (by rw [h.1];exact hnz),h.1];rfl
 ·rename_i c d he
  simp only [Bool.and_eq_true,beq_iff_eq] at h
  obtain ⟨⟨⟨h1,h2⟩,h3⟩,h4⟩:=h
  rw [he]
  have hcd:∀ n ∈ [c,d],okByte n=true:=fun n hn=>by
   simp only [List.mem_cons,List.not_mem_nil,or_false] at hn
   rcases hn with rfl|rfl
   ·exact h3
   ·exact h4
  refine ⟨hcd,fun rest hr=>⟨?_,by simp⟩⟩
  rw [get_same (fun n hn=>by
   rcases List.mem_append.1 hn with hn|hn
   ·exact okByte_le (hcd n hn)
   ·exact hr n hn)]
  simp only [List.cons_append,List.nil_append,getB]
  rw [if_neg (by simpa using h1),if_pos (by rw [h2];exact hnz),h2];rfl
 ·cases h
def decA (p:List Int):Option (List Int):=
 if p=[] then some [] else if h:(getA p).2≤0 then none else if p.length < (getA p).2.toNat then none else (decA (p.drop (getA p).2.toNat)).map ((getA p).1 :: ·)
termination_by p.length
decreasing_by
 rw [List.length_drop]
 have:p.length≠0:=fun h=>by simp_all
 omega
theorem decA_nil:decA []=some []:=by rw [decA];rfl
theorem decA_zero {p:List Int} (hp:p≠[]) (h:getA p=(0,0)):decA p=none:=by
 rw [decA,if_neg hp,h];rfl
theorem decA_cons {p:List Int} {x n:Nat} (hp:p≠[]) (h:getA p=((x:Int),(n:Int))) (h1:1≤n) (h2:n≤p.length):decA p=(decA (p.drop n)).map ((x:Int) :: ·):=by
 rw [decA,if_neg hp,h]
 rw [dif_neg (by simp only;omega),if_neg (by simp only;omega)]
 simp only [Int.toNat_natCast]
theorem encA_cons (x:Nat) (l:List Nat):encA (x :: l)=putA x ++ encA l:=by simp [encA]
theorem decA_enc:∀ {l:List Nat},(∀ x ∈ l,x ∈ REP)→(∀ c ∈ encA l,okByte c=true)∧decA (encA l)=some (asI l)
 |[],_=>⟨by simp [encA],decA_nil⟩
 |x :: l,h=>by
  obtain ⟨h1,h2⟩:=put_ok' (h x (by simp))
  obtain ⟨h3,h4⟩:=decA_enc (l:=l) fun y hy=>h y (by simp [hy])
  rw [encA_cons]
  obtain ⟨h5,h6⟩:=h2 (encA l) fun n hn=>okByte_le (h3 n hn)
  refine ⟨fun c hc=>(List.mem_append.1 hc).elim (h1 c) (h3 c),?_⟩
  rw [decA_cons (fun e=>by rw [List.append_eq_nil_iff] at e;rw [e.1] at h6;simp at h6) h5 h6 (by simp),List.drop_left,h4]
  rfl
end Go.Gh
end
section
namespace Go.Gh
set_option linter.unusedSimpArgs false
set_option linter.unusedVariables false
set_option maxHeartbeats 4000000
open Go.RowKit
set_option maxRecDepth 4000
theorem append_na {H0 H:GHeap} {v:Value} {n:Nat} {xs:List Value} (h:OS 1 257 H0 H v n xs) {x:Nat} (hx:x ∈ REP) (h127:¬ x≤127) (hn:n < 140737488000000):
 ∃ r H',gev G 218 [v,.int .i32 (x:Int)] H=some (r,H')∧(OS 1 257 H0 H' r (n+(encL x).length) (xs ++ u8s (encL x))∧But (fun j=>j ∈ idOf v) H H'):=by
 refine gev_GW (f:=218) rfl fun Post hPost=>?_
 have hr:=rep_le hx
 have he:=encL_eq hx
 rw [if_neg h127] at he
 simp only [frameOf,Nat.reduceAdd]
 have hu:=wrap_u32n (n:=x) (by omega)
 by_cases h2:x≤2047
 ·rw [if_pos h2] at he
  rw [he] at hPost
  repeat' (first|(exfalso;omega)|refine zz10 @g218.eq_1 @hu @sh6 @and63 @and63n @or192 @or192n @or128 @wrap_u8n @fillb2 ?_|(refine zh (fun hc=>?_) (fun hc=>?_)<;>try simp only [yL] at hc))
  refine Gw_s fun K' hK'=>?_
  simp (disch:=first|exact zd|fail) only [↓yS,yT,↓reduceIte,Nat.reduceEqDiff,Nat.reduceAdd,Nat.reduceMul,reduceCtorEq,Int.reduceToNat]
  obtain ⟨v',H',e,hO,hB⟩:=h.appB (enc2 x) (by simp [enc2];omega)
  refine G1_eq e (hK' _ _ ?_)
  clear hK' K' e
  repeat' (first|(exfalso;omega)|refine zz1 @g218.eq_1 ?_|(refine zh (fun hc=>?_) (fun hc=>?_)<;>try simp only [yL] at hc))
  exact hPost _ _ ⟨hO,hB⟩
 ·rw [if_neg h2] at he
  rw [he] at hPost
  have hd1:decide ((x:Int) < 55296)=true:=decide_eq_true (by omega)
  repeat' (first|(exfalso;omega)|refine zz12 @g218.eq_1 @hu @hd1 @sh6 @sh12 @and63 @and63n @or224 @or224n @or128 @wrap_u8n @fillb3 ?_|(refine zh (fun hc=>?_) (fun hc=>?_)<;>try simp only [yL] at hc))
  refine Gw_s fun K' hK'=>?_
  simp (disch:=first|exact zd|fail) only [↓yS,yT,↓reduceIte,Nat.reduceEqDiff,Nat.reduceAdd,Nat.reduceMul,reduceCtorEq,Int.reduceToNat]
  obtain ⟨v',H',e,hO,hB⟩:=h.appB (enc3 x) (by simp [enc3];omega)
  refine G1_eq e (hK' _ _ ?_)
  clear hK' K' e
  repeat' (first|(exfalso;omega)|refine zz1 @g218.eq_1 ?_|(refine zh (fun hc=>?_) (fun hc=>?_)<;>try simp only [yL] at hc))
  exact hPost _ _ ⟨hO,hB⟩
theorem append_ok {H0 H:GHeap} {v:Value} {n:Nat} {xs:List Value} (h:OS 1 257 H0 H v n xs) {x:Nat} (hx:x ∈ REP) (hn:n < 140737488000000):
 ∃ r H',gev G 205 [v,.int .i32 (x:Int)] H=some (r,H')∧(OS 1 257 H0 H' r (n+(encL x).length) (xs ++ u8s (encL x))∧But (fun j=>j ∈ idOf v) H H'):=by
 refine gev_GW (f:=205) rfl fun Post hPost=>?_
 have hr:=rep_le hx
 have he:=encL_eq hx
 simp only [frameOf,Nat.reduceAdd]
 have hu:=wrap_u32n (n:=x) (by omega)
 by_cases h1:x≤127
 ·rw [if_pos h1] at he
  rw [he] at hPost
  have hu8:IntKind.u8.wrap (x:Int)=((UInt8.ofNat x).toNat:Int):=wrap_u8n
  repeat' (first|(exfalso;omega)|refine zz3 @g205.eq_1 @hu @fillb1 ?_|(refine zh (fun hc=>?_) (fun hc=>?_)<;>try simp only [yL] at hc))
  have hcell:(u8s (List.replicate 1 0)).set 0 (.int .u8 (x:Int))=u8s [UInt8.ofNat x]:=by
   have:(UInt8.ofNat x).toNat=x:=by rw [UInt8.toNat_ofNat'];omega
   simp [u8s,this]
  rw [hcell]
  refine Gw_s fun K' hK'=>?_
  simp (disch:=first|exact zd|fail) only [↓yS,yT,↓reduceIte,Nat.reduceEqDiff,Nat.reduceAdd,Nat.reduceMul,reduceCtorEq,Int.reduceToNat]
  obtain ⟨v',H',e,hO,hB⟩:=h.appB [UInt8.ofNat x] (by simp;omega)
  refine G1_eq e (hK' _ _ ?_)
  clear hK' K' e
  repeat' (first|(exfalso;omega)|refine zz1 @g205.eq_1 ?_|(refine zh (fun hc=>?_) (fun hc=>?_)<;>try simp only [yL] at hc))
  exact hPost _ _ ⟨hO,hB⟩
 ·repeat' (first|(exfalso;omega)|refine zz2 @g205.eq_1 @hu ?_|(refine zh (fun hc=>?_) (fun hc=>?_)<;>try simp only [yL] at hc))
  refine zc0 (append_na h hx h1 hn) fun r2 H2 hq=>?_
  repeat' (first|(exfalso;omega)|refine zz1 @g205.eq_1 ?_|(refine zh (fun hc=>?_) (fun hc=>?_)<;>try simp only [yL] at hc))
  exact hPost _ _ hq
set_option maxRecDepth 4000
theorem write_ok {H0 H:GHeap} {b:Nat} {l:List UInt8} (h:Bld H0 H b l) {x:Nat} (hx:x ∈ REP) (hn:l.length < 140737488000000):
 ∃ r H',gev G 184 [self b,.int .i32 (x:Int)] H=some (r,H')∧Bld H0 H' b (l ++ encL x):=by
 refine gev_GW (f:=184) rfl fun Post hPost=>?_
 have hel:=encL_len hx
 simp only [frameOf,Nat.reduceAdd]
 repeat' (first|refine zz1 @g184.eq_1 ?_|(refine zh (fun hc=>?_) (fun hc=>?_)<;>try simp only [yL] at hc))
 refine zc0 (h.check) fun r1 H1 hq=>?_
 obtain ⟨rfl,s,hm,hO,_⟩:=hq
 have hr1:H1.rd b 1=some s:=mine_rd hm
 have hsl:=hO.rd.isSl
 have hs:self b=.pointer (some ⟨b,0,none⟩):=rfl
 repeat' (first|refine zz4 @g184.eq_1 @hs @hr1 hsl.len ?_|(refine zh (fun hc=>?_) (fun hc=>?_)<;>try simp only [yL] at hc))
 refine zc0 (append_ok hO hx hn) fun r2 H2 hq=>?_
 obtain ⟨hO2,hB⟩:=hq
 have hlt:=mine_lt hO.same.wf hm
 have hnot:¬ b ∈ idOf s:=fun ha=>by
  have:=(hO.ids ha).2.2
  rw [hm] at this
  simp at this
 have hm2:H2.mine b=some ([self b,s],258):=by rw [hB.mine hlt hnot];exact hm
 have hf:=hO2.flat
 have hlt2:=mine_lt hO2.same.wf hm2
 have hO3:OS 1 257 H0 (H2.put b (.cells [self b,r2] 258 true)) r2 (l.length+(encL x).length) (u8s l ++ u8s (encL x)):=
  hO2.but (S:=fun j=>j=b) ((But.refl (S:=fun j=>j=b) hO2.same.wf).put rfl hlt2 _) (fun k hk e=>by have:=h.young;omega) fun a ha e=>by
   have:=(hO2.ids ha).2.2
   rw [e,hm2] at this
   simp at this
 have hm3:(H2.put b (.cells [self b,r2] 258 true)).mine b=some ([self b,r2],258):=mine_put_same (mine_obj hm2).1
 have hst:∀ v,v=r2→gst none H2 (.pointer (some ⟨b,1,none⟩)) v=some (H2.put b (.cells [self b,r2] 258 true)):=fun v e=>by
  rw [e,gst_1,hm2,Option.bind_some,gset_ok (by simp) hf];rfl
 have hst':=hst r2 rfl
 have hr3:(H2.put b (.cells [self b,r2] 258 true)).rd b 1=some r2:=mine_rd hm3
 have hsl3:=hO3.rd.isSl
 generalize H2.put b (.cells [self b,r2] 258 true)=H3 at *
 repeat' (first|refine zz5 @g184.eq_1 @hs @hst' @hr3 hsl3.len ?_|(refine zh (fun hc=>?_) (fun hc=>?_)<;>try simp only [yL] at hc))
 refine hPost _ _ ⟨⟨_,_,hm3,.inr rfl,?_,fun e=>?_⟩,h.young⟩
 rotate_left
 ·rw [List.append_eq_nil_iff] at e
  rw [e.2] at hel
  simp at hel
 rw [u8s_append,List.length_append]
 exact hO3
def decV (p:List Int):List UInt8:=match decA p with
 |some m=>encs' m
 |none=>[]
def decE (p:List Int):Int:=match decA p with
 |some _=>0
 |none=>4
theorem encs'_app (a b:List Int):encs' (a ++ b)=encs' a ++ encs' b:=by simp [encs']
theorem encs'_one (x:Nat):encs' [(x:Int)]=encL x:=by simp [encs']
theorem decode_ok {H:GHeap} (hw:H.wf) {v:Value} {p:List Int} (hv:GArg1 H 1 v p.length (ints .u8 p)) (hp:∀ n ∈ p,0≤n∧n≤255) (hn:p.length≤35184372088832):
 ∃ r H',gev G 148 [v] H=some (r,H')∧(r=.tuple #[.string (strB (decV p)),.int .i64 (decE p)]∧Same H H'):=by
 refine gev_GW (f:=148) rfl fun Post hPost=>?_
 have hlim:=hw.1
 simp only [frameOf,Nat.reduceAdd]
 repeat' (first|refine zz1 @g148.eq_1 ?_|(refine zh (fun hc=>?_) (fun hc=>?_)<;>try simp only [yL] at hc))
 refine GW_loop (fun k fr H1=>∃ (q done:List Int) (u:Value),k=q.length∧fr.get 0=some (u)∧fr.get 4=some (self H.len)∧GArg1 H 1 u q.length (ints .u8 q)∧Bld H H1 H.len (encs' done)∧decA p=(decA q).map (done ++ ·)∧(∀ n ∈ q,0≤n∧n≤255)∧(encs' done).length+3 * q.length≤3 * p.length) ?_ p.length ?_
 rotate_left
 ·refine ⟨p,[],v,rfl,?_⟩
  simp only [↓yG,Nat.reduceEqDiff,↓reduceIte,Int.natCast_add,Int.cast_ofNat_Int,Int.natCast_zero,true_and,and_true,Option.some.injEq,Value.int.injEq]
  refine ⟨rfl,hv,Bld.new hw,by simp,hp,?_⟩
  simp [encs']
 rintro k fr H1 ⟨q,done,u,rfl,f0,f4,hu0,hB,hd,hq0,hle⟩ J hJ
 have hw1:=hB.same.wf
 have hu:=hu0.same hw hB.same
 have hsl:=hu.rd.isSl
 cases q with
 |nil=>
  have hd':decA p=some done:=by rw [hd,decA_nil];simp
  repeat' (first|(exfalso;omega)|refine zz5 @g148.eq_1 @f0 @f4 hsl.len @List.length_nil.{0} ?_|(refine zh (fun hc=>?_) (fun hc=>?_)<;>try simp only [yL] at hc))
  refine zc2 @f0 @f4 (string_ok hB (by simp at hle;omega)) fun r3 H3 hq=>?_
  obtain ⟨rfl,hS⟩:=hq
  repeat' (first|refine zz3 @g148.eq_1 @f0 @f4 ?_|(refine zh (fun hc=>?_) (fun hc=>?_)<;>try simp only [yL] at hc))
  refine hPost _ _ ⟨?_,hS⟩
  simp only [decV,decE,hd']
 |cons c t=>
  repeat' (first|(exfalso;omega)|refine zz5 @g148.eq_1 @f0 @f4 hsl.len @List.length_cons.{0} ?_|(refine zh (fun hc=>?_) (fun hc=>?_)<;>try simp only [yL] at hc))
  refine zc2 @f0 @f4 (get_ok hw1 hu.rd hq0 (by simp at hle ⊢;omega)) fun r3 H3 hq=>?_
  obtain ⟨rfl,hS⟩:=hq
  have hB3:=hB.later hS
  rcases getA_cases hq0 with hg|⟨x,n,hx,hg,h1,h2,h3⟩
  ·rw [hg]
   dsimp only
   have hd':decA p=none:=by rw [hd,decA_zero (by simp) hg];rfl
   repeat' (first|refine zz3 @g148.eq_1 @f0 @f4 ?_|(refine zh (fun hc=>?_) (fun hc=>?_)<;>try simp only [yL] at hc))
   refine hPost _ _ ⟨?_,hB3.same⟩
   simp only [decV,decE,hd']
   rfl
  ·rw [hg]
   dsimp only
   have hnz:¬ ((n:Int)=0):=by omega
   have hel:=encL_len hx
   repeat' (first|(exfalso;omega)|refine zz3 @g148.eq_1 @f0 @f4 ?_|(refine zh (fun hc=>?_) (fun hc=>?_)<;>try simp only [yL] at hc))
   refine zc2 @f0 @f4 (write_ok hB3 hx (by simp at hle;omega)) fun r4 H4 hB4=>?_
   obtain ⟨v',e1,hu'⟩:=hu0.suf (k:=.i64) h2
   have e2:=(hu0.gslice_same hw hB4.same none none none).symm
   clear e2
   have e3:gslice (.sl 1) H4 u (some (.int .i64 n)) none none=some v':=(hu0.gslice_same hw hB4.same _ _ _).trans e1
   repeat' (first|refine zz4 @g148.eq_1 @f0 @f4 @e3 ?_|(refine zh (fun hc=>?_) (fun hc=>?_)<;>try simp only [yL] at hc))
   have hl:((c :: t).drop n).length=(c :: t).length - n:=List.length_drop
   refine hJ _ _ ⟨((c :: t).drop n).length,by rw [hl];omega,(c :: t).drop n,done ++ [(x:Int)],v',rfl,?_⟩
   simp only [↓yG,Nat.reduceEqDiff,↓reduceIte,Int.natCast_add,Int.cast_ofNat_Int,Int.natCast_zero,true_and,and_true,Option.some.injEq,Value.int.injEq,f4]
   refine ⟨?_,?_,?_,fun m hm=>hq0 m (List.mem_of_mem_drop hm),?_⟩
   ·rw [hl]
    have:(ints .u8 (c :: t)).drop n=ints .u8 ((c :: t).drop n):=by simp [ints,List.map_drop]
    rw [← this];exact hu'
   ·rw [encs'_app,encs'_one];exact hB4
   ·rw [hd,decA_cons (by simp) hg h1 h2,Option.map_map]
    congr 1
    funext z
    simp
   ·rw [encs'_app,encs'_one,List.length_append,hl]
    omega
end Go.Gh
end
section
namespace Go.Gh
set_option linter.unusedSimpArgs false
set_option linter.unusedVariables false
set_option maxHeartbeats 4000000
set_option maxRecDepth 100000
def runCh (x:SR):List (Nat × Sy):=(rns (strB x.t)).map fun c=>(c,x.s)
def charsR (l:List SR):List (Nat × Sy):=l.flatMap runCh
theorem charsR_len (l:List SR):(charsR l).length=cntL l:=by
 induction l with
 |nil=>rfl
 |cons x l ih=>
  simp only [charsR,List.flatMap_cons,List.length_append,cntL,List.map_cons,List.sum_cons] at ih ⊢
  rw [ih];simp [runCh,cntR]
def OkV (l:List SR):Prop:=∀ x ∈ l,vR x=true
theorem okV_all {l:List SR}:l.all vR=true↔OkV l:=List.all_eq_true
theorem chs_of {x:SR} (h:vR x=true):x.t=(rns (strB x.t)).flatMap encL∧∀ c ∈ rns (strB x.t),c ∈ REP:=by
 unfold vR at h
 exact ⟨(enc_rns h).symm,vldB_mem h⟩
theorem rns_of {t:List UInt8} {l:List Nat} (h:∀ c ∈ l,c ∈ REP) (e:t=l.flatMap encL):rns (strB t)=l∧vldB (strB t)=true:=by
 have h1:rns (strB t)=l:=by rw [e];exact rns_enc h
 exact ⟨h1,vldB_of (by rw [h1];exact h)⟩
theorem rns_app {x z:SR} (hx:vR x=true) (hz:vR z=true) (s:Sy) (y:List UInt8):rns (strB (z.t ++ x.t))=rns (strB z.t) ++ rns (strB x.t)∧vR ⟨z.t ++ x.t,s,y⟩=true:=by
 obtain ⟨e1,h1⟩:=chs_of hx
 obtain ⟨e2,h2⟩:=chs_of hz
 have h:=rns_of (t:=z.t ++ x.t) (l:=rns (strB z.t) ++ rns (strB x.t)) (fun c hc=>(List.mem_append.1 hc).elim (h2 c) (h1 c)) (by rw [List.flatMap_append,← e1,← e2])
 exact ⟨h.1,h.2⟩
theorem charsR_app (a b:List SR):charsR (a ++ b)=charsR a ++ charsR b:=by simp [charsR]
theorem charsR_one (x:SR):charsR [x]=runCh x:=by simp [charsR]
theorem charsR_cons (x:SR) (l:List SR):charsR (x :: l)=runCh x ++ charsR l:=by simp [charsR]
theorem lenF_ok {l:List SR} (h:OkV l):lenF l=((charsR l).length:Nat):=by rw [lenF,if_pos (okV_all.2 h),charsR_len]
theorem plainF_chars {l:List SR} (h:OkV l):plainF l=(charsR l).flatMap fun p=>encL p.1:=by
 induction l with
 |nil=>rfl
 |cons x l ih=>
  have h1:=(chs_of (h x (by simp))).1
  have h2:=ih fun y hy=>h y (by simp [hy])
  have e1:plainF (x :: l)=x.t ++ plainF l:=by simp [plainF]
  rw [e1,charsR_cons,List.flatMap_append,← h2]
  congr 1
  conv=>lhs;rw [h1]
  simp [runCh,List.flatMap_map]
theorem pushN_nil (x:SR):pushN [] x=if x.t=[] then [] else [x]:=by simp [pushN]
theorem pushN_snoc (p:List SR) (z x:SR):pushN (p ++ [z]) x=if x.t=[] then p ++ [z] else if alikeF z x=true then p ++ [{z with t:=z.t ++ x.t}] else p ++ [z,x]:=by
 have hl:lastR (p ++ [z])=z:=by simp [lastR]
 unfold pushN
 rw [hl]
 split
 ·rfl
 ·have h0:0 < (p ++ [z]).length:=by simp
  by_cases h:alikeF z x=true
  ·rw [if_pos ⟨h0,h⟩,if_pos h];simp
  ·rw [if_neg (fun k=>h k.2),if_neg h];simp
theorem snoc_cases (l:List SR):l=[]∨∃ p z,l=p ++ [z]:=by
 rcases Nat.eq_zero_or_pos l.length with h|h
 ·exact .inl (List.eq_nil_of_length_eq_zero h)
 ·obtain ⟨p,e,_⟩:=last_split h;exact .inr ⟨p,_,e⟩
structure Gd1 (x:SR):Prop where
 v:vR x=true
 t:x.t≠[]
 s:okS x.s=true
 y:x.y=[]
def lastO:Option SR→List SR→Option SR
 |p,[]=>p
 |_,x :: r=>lastO (some x) r
theorem lastO_snoc:∀ (l:List SR) (p:Option SR) (z:SR),lastO p (l ++ [z])=some z
 |[],_,_=>rfl
 |x :: r,_,z=>lastO_snoc r (some x) z
theorem chk_snoc:∀ (l:List SR) (p:Option SR) (x:SR),chkGo p (l ++ [x])=0↔chkGo p l=0∧chk1 (lastO p l) x=0
 |[],p,x=>by
  simp only [List.nil_append,chkGo,lastO,true_and]
  split<;>rename_i h<;>simp [h]
 |z :: r,p,x=>by
  have ih:=chk_snoc r (some z) x
  simp only [List.cons_append,chkGo,lastO]
  split
  ·exact ih
  ·rename_i h;simp [h]
theorem vld_nil:vldB (strB [])=true:=by decide+kernel
theorem gd_chk {x:SR} (h:Gd1 x) (p:Option SR):chk1 p x=0↔∀ z,p=some z→alikeF z x=false:=by
 have hy:yR x=true:=by unfold yR;rw [h.y];exact vld_nil
 unfold chk1
 rw [if_neg (by simp [h.v]),if_neg h.t,if_neg (by simp [h.s]),if_neg (by simp [hy])]
 cases p with
 |none=>simp
 |some z=>cases alikeF z x<;>simp
structure GdL (l:List SR):Prop where
 all:∀ x ∈ l,Gd1 x
 chk:chkGo none l=0
theorem gd_push {l:List SR} {x:SR} (hl:GdL l) (hx:Gd1 x):GdL (pushN l x)∧charsR (pushN l x)=charsR l ++ runCh x∧(pushN l x).length≤l.length+1:=by
 rcases snoc_cases l with rfl|⟨p,z,rfl⟩
 ·rw [pushN_nil,if_neg hx.t]
  refine ⟨⟨fun y hy=>by rw [List.mem_singleton.1 hy];exact hx,?_⟩,by rw [charsR_one];rfl,by simp⟩
  simp only [chkGo,(gd_chk hx none).2 (fun z h=>by cases h),if_true]
 ·rw [pushN_snoc,if_neg hx.t]
  have hz:=hl.all z (by simp)
  split
  ·rename_i ha
   obtain ⟨r1,r2⟩:=rns_app hx.v hz.v z.s z.y
   have hss:z.s=x.s:=by unfold alikeF at ha;simp at ha;exact ha.1.1
   have hz':Gd1 {z with t:=z.t ++ x.t}:=⟨r2,by simp [hz.t],hz.s,hz.y⟩
   have hc:=(chk_snoc p none z).1 hl.chk
   refine ⟨⟨fun y hy=>?_,(chk_snoc _ _ _).2 ⟨hc.1,(gd_chk hz' _).2 ((gd_chk hz _).1 hc.2)⟩⟩,?_,by simp⟩
   ·rcases List.mem_append.1 hy with hy|hy
    ·exact hl.all y (by simp [hy])
    ·rw [List.mem_singleton.1 hy];exact hz'
   ·rw [charsR_app,charsR_app,charsR_one,charsR_one,List.append_assoc]
    congr 1
    simp only [runCh,r1,List.map_append,hss]
  ·rename_i ha
   have e:p ++ [z,x]=(p ++ [z]) ++ [x]:=by simp
   rw [e]
   refine ⟨⟨fun y hy=>?_,(chk_snoc _ _ _).2 ⟨hl.chk,(gd_chk hx _).2 fun y hy=>?_⟩⟩,by rw [charsR_app,charsR_one],by simp⟩
   ·rcases List.mem_append.1 hy with hy|hy
    ·exact hl.all y hy
    ·rw [List.mem_singleton.1 hy];exact hx
   ·rw [lastO_snoc] at hy;cases hy;simpa using ha
theorem gd_fold:∀ {l out:List SR},GdL out→(∀ x ∈ l,Gd1 x)→GdL (l.foldl pushN out)∧charsR (l.foldl pushN out)=charsR out ++ charsR l∧(l.foldl pushN out).length≤out.length+l.length
 |[],out,ho,_=>⟨ho,by simp [charsR],by simp⟩
 |x :: l,out,ho,hl=>by
  obtain ⟨h1,h2,h3⟩:=gd_push ho (hl x (by simp))
  obtain ⟨h4,h5,h6⟩:=gd_fold (l:=l) h1 fun y hy=>hl y (by simp [hy])
  rw [List.foldl_cons]
  refine ⟨h4,by rw [h5,h2,charsR_cons,List.append_assoc],by rw [List.length_cons];omega⟩
def bare (x:SR):SR:={x with y:=[]}
def bareF (l:List SR):List SR:=normF (l.map bare)
structure RowG (l:List SR):Prop where
 ok:rowOk l
 c:∀ x ∈ l,0≤x.s.c
theorem chkGo_mem:∀ {l:List SR} {p:Option SR},chkGo p l=0→∀ x ∈ l,vR x=true∧x.t≠[]∧okS x.s=true
 |[],_,_,x,hx=>by cases hx
 |z :: r,p,h,x,hx=>by
  simp only [chkGo] at h
  split at h
  ·rename_i h1
   rcases List.mem_cons.1 hx with rfl|hx
   ·unfold chk1 at h1
    refine ⟨?_,?_,?_⟩
    ·cases hv:vR x with
     |true=>rfl
     |false=>rw [if_pos hv] at h1;cases h1
    ·intro ht
     rw [if_pos ht] at h1
     split at h1<;>cases h1
    ·cases hv:okS x.s with
     |true=>rfl
     |false=>
      rw [hv] at h1
      split at h1
      ·cases h1
      ·split at h1
       ·cases h1
       ·simp at h1
   ·exact chkGo_mem h x hx
  ·rename_i h1;exact absurd h h1
section
variable {l:List SR}
theorem RowG.len (h:RowG l):l.length≤16:=by
 have:=h.ok.1
 unfold checkF at this
 split at this
 ·cases this
 ·omega
theorem RowG.chk (h:RowG l):chkGo none l=0:=by
 have h1:=h.ok.1
 have h2:=h.len
 unfold checkF at h1
 rwa [if_neg (by omega)] at h1
theorem RowG.mem (h:RowG l):∀ x ∈ l,vR x=true∧x.t≠[]∧okS x.s=true:=chkGo_mem h.chk
theorem RowG.v (h:RowG l):OkV l:=fun x hx=>(h.mem x hx).1
theorem RowG.col (h:RowG l):∀ x ∈ l,0≤x.s.c∧x.s.c≤6:=fun x hx=>⟨h.c x hx,by simpa [okS] using (h.mem x hx).2.2⟩
theorem RowG.cnt (h:RowG l):cntL l≤32:=by
 have h1:=h.ok.2.2.2.2.2
 rw [lenF_ok h.v,charsR_len] at h1
 omega
theorem bare_gd (h:RowG l):∀ x ∈ l.map bare,Gd1 x:=fun x hx=>by
 obtain ⟨z,hz,rfl⟩:=List.mem_map.1 hx
 obtain ⟨h1,h2,h3⟩:=h.mem z hz
 exact ⟨h1,h2,h3,rfl⟩
theorem charsR_bare (l:List SR):charsR (l.map bare)=charsR l:=by
 simp only [charsR,List.flatMap_map]
 rfl
theorem bareF_gd (h:RowG l):GdL (bareF l)∧charsR (bareF l)=charsR l∧(bareF l).length≤l.length:=by
 obtain ⟨h1,h2,h3⟩:=gd_fold (l:=l.map bare) (out:=[]) ⟨fun x hx=>by simp at hx,rfl⟩ (bare_gd h)
 rw [charsR_bare] at h2
 rw [List.length_map,List.length_nil,Nat.zero_add] at h3
 exact ⟨h1,h2,h3⟩
theorem bareF_plain (h:RowG l):plainF (bareF l)=plainF l∧lenF (bareF l)=lenF l:=by
 obtain ⟨h1,h2,_⟩:=bareF_gd h
 have hv:OkV (bareF l):=fun x hx=>(h1.all x hx).v
 rw [plainF_chars hv,plainF_chars h.v,lenF_ok hv,lenF_ok h.v,h2]
 exact ⟨rfl,rfl⟩
theorem bareF_row (h:RowG l):RowG (bareF l):=by
 obtain ⟨h1,h2,h3⟩:=bareF_gd h
 obtain ⟨e1,e2⟩:=bareF_plain h
 have hl:=h.len
 obtain ⟨k1,k2,k3,k4,k5,k6⟩:=h.ok
 refine ⟨⟨by rw [checkF,if_neg (by omega)];exact h1.chk,by rw [e1];exact k2,by rw [e1];exact k3,by rw [e1];exact k4,by rw [e1];exact k5,by rw [e2];exact k6⟩,?_⟩
 have hs:∀ p ∈ charsR (bareF l),0≤p.2.c:=fun p hp=>by
  rw [h2] at hp
  obtain ⟨x,hx,hp⟩:=List.mem_flatMap.1 hp
  obtain ⟨c,_,rfl⟩:=List.mem_map.1 hp
  exact h.c x hx
 intro x hx
 have hg:=h1.all x hx
 have hne:rns (strB x.t)≠[]:=fun e=>hg.t (by rw [(chs_of hg.v).1,e];rfl)
 obtain ⟨c,r,e⟩:=List.exists_cons_of_ne_nil hne
 exact hs (c,x.s) (List.mem_flatMap.2 ⟨x,hx,by simp [runCh,e]⟩)
end
def sy0:Sy:=⟨0,false,false⟩
def colB (c:Int):Int:=if c=0 then 7 else if c=1 then 2 else if c=2 then 4 else if c=3 then 6 else if c=4 then 1 else if c=5 then 3 else 5
def swB (a b:Sy):List Int:=(if b.c=a.c then [] else [colB b.c]) ++ ((if b.i=a.i then [] else [if b.i=true then 128 else 129]) ++ (if b.u=a.u then [] else [if b.u=true then 130 else 131]))
def rowB:Sy→List SR→List Int
 |_,[]=>[]
 |s,x :: r=>swB s x.s ++ (encA (rns (strB x.t)) ++ rowB x.s r)
def txtB:Bool→List (List SR)→List Int
 |_,[]=>[]
 |b,x :: r=>(if b=true then [138] else []) ++ (rowB sy0 x ++ txtB true r)
def colOf (b:Int):Option Int:=if b=7 then some 0 else if b=2 then some 1 else if b=4 then some 2 else if b=6 then some 3 else if b=1 then some 4 else if b=3 then some 5 else if b=5 then some 6 else none
def trn (s:Sy) (b:Int):Option Sy:=if b=128∨b=129 then some {s with i:=decide (b=128)} else if b=130∨b=131 then some {s with u:=decide (b=130)} else (colOf b).map fun c=>{s with c:=c}
def tb (c:Int):Prop:=0≤c∧c≤255∧c≠143
theorem colB_range (c:Int):1≤colB c∧colB c≤7:=by unfold colB;(repeat' split)<;>omega
theorem swB_tb (a b:Sy):∀ c ∈ swB a b,tb c:=by
 have:=colB_range b.c
 intro c hc
 unfold swB at hc
 simp only [List.mem_append] at hc
 unfold tb
 rcases hc with hc|hc|hc
 all_goals
  split at hc
  ·cases hc
  ·rw [List.mem_singleton.1 hc]
   first|omega|(split<;>omega)
theorem swB_len (a b:Sy):(swB a b).length≤3:=by
 unfold swB
 simp only [List.length_append]
 have h1:(if b.c=a.c then ([]:List Int) else [colB b.c]).length≤1:=by split<;>simp
 have h2:(if b.i=a.i then ([]:List Int) else [if b.i=true then 128 else 129]).length≤1:=by split<;>simp
 have h3:(if b.u=a.u then ([]:List Int) else [if b.u=true then 130 else 131]).length≤1:=by split<;>simp
 omega
theorem ok_tb {c:Int} (h:okByte c=true):tb c∧c≠138∧∀ s,trn s c=none:=by
 unfold okByte at h
 rw [decide_eq_true_eq] at h
 refine ⟨by unfold tb;omega,by omega,fun s=>?_⟩
 unfold trn colOf
 rw [if_neg (by omega),if_neg (by omega),if_neg (by omega),if_neg (by omega),if_neg (by omega),if_neg (by omega),if_neg (by omega),if_neg (by omega),if_neg (by omega)]
 rfl
theorem rowB_tb:∀ (l:List SR) (s:Sy),OkV l→∀ c ∈ rowB s l,tb c
 |[],_,_,c,hc=>by cases hc
 |x :: r,s,h,c,hc=>by
  simp only [rowB,List.mem_append] at hc
  rcases hc with hc|hc|hc
  ·exact swB_tb _ _ c hc
  ·exact (ok_tb ((decA_enc (chs_of (h x (by simp))).2).1 c hc)).1
  ·exact rowB_tb r x.s (fun y hy=>h y (by simp [hy])) c hc
theorem rowB_len:∀ (l:List SR) (s:Sy),(rowB s l).length≤3 * l.length+2 * cntL l
 |[],_=>by simp [rowB]
 |x :: r,s=>by
  have h1:=swB_len s x.s
  have h2:=encA_len (rns (strB x.t))
  have h3:=rowB_len r x.s
  simp only [rowB,List.length_append,List.length_cons,cntL,List.map_cons,List.sum_cons,cntR] at h3 ⊢
  omega
theorem txtB_tb:∀ (L:List (List SR)) (b:Bool),(∀ l ∈ L,RowG l)→∀ c ∈ txtB b L,tb c
 |[],_,_,c,hc=>by cases hc
 |x :: r,b,h,c,hc=>by
  simp only [txtB,List.mem_append] at hc
  rcases hc with hc|hc|hc
  ·split at hc
   ·rw [List.mem_singleton.1 hc];unfold tb;omega
   ·cases hc
  ·exact rowB_tb x sy0 (h x (by simp)).v c hc
  ·exact txtB_tb r true (fun y hy=>h y (by simp [hy])) c hc
theorem txtB_len:∀ (L:List (List SR)) (b:Bool),(∀ l ∈ L,RowG l)→(txtB b L).length≤113 * L.length
 |[],_,_=>by simp [txtB]
 |x :: r,b,h=>by
  have hx:=h x (by simp)
  have h1:=rowB_len x sy0
  have h2:=hx.len
  have h3:=hx.cnt
  have h4:=txtB_len r true fun y hy=>h y (by simp [hy])
  have h5:(if b=true then [(138:Int)] else []).length≤1:=by split<;>simp
  simp only [txtB,List.length_append,List.length_cons]
  omega
inductive Scan:List (List SR)→List SR→Sy→List Int→List (List SR)→Prop
 |nil {out row now}:Scan out row now [] (out ++ [normF row])
 |nl {out row now t res}:Scan (out ++ [normF row]) [] sy0 t res→Scan out row now (138 :: t) res
 |sw {out row now c t res s}:c≠138→trn now c=some s→Scan out row s t res→Scan out row now (c :: t) res
 |ch {out row now c t res} {x n:Nat}:c≠138→trn now c=none→getA (c :: t)=((x:Int),(n:Int))→x ∈ REP→1≤n→n≤(c :: t).length→
  Scan out (row ++ [⟨encL x,now,[]⟩]) now ((c :: t).drop n) res→Scan out row now (c :: t) res
def inR (l:List Int):Prop:=∀ n ∈ l,0≤n∧n≤255
def sngl (s:Sy) (l:List Nat):List SR:=l.map fun x=>⟨encL x,s,[]⟩
def sng (l:List SR):List SR:=l.flatMap fun x=>sngl x.s (rns (strB x.t))
def lastS:Sy→List SR→Sy
 |s,[]=>s
 |_,x :: r=>lastS x.s r
theorem scan_enc {out:List (List SR)} {s:Sy} {rest:List Int} {res:List (List SR)} (hr:inR rest):∀ (l:List Nat) (row:List SR),(∀ x ∈ l,x ∈ REP)→Scan out (row ++ sngl s l) s rest res→Scan out row s (encA l ++ rest) res
 |[],row,_,h=>by simpa [encA,sngl] using h
 |x :: l,row,hl,h=>by
  obtain ⟨h1,h2⟩:=put_ok' (hl x (by simp))
  have hl':∀ y ∈ l,y ∈ REP:=fun y hy=>hl y (by simp [hy])
  have h3:inR (encA l ++ rest):=fun n hn=>(List.mem_append.1 hn).elim (fun k=>okByte_le ((decA_enc hl').1 n k)) (hr n)
  obtain ⟨h4,h5⟩:=h2 _ h3
  have ih:=scan_enc hr l (row ++ [⟨encL x,s,[]⟩]) hl' (by simpa [sngl,List.append_assoc] using h)
  rw [encA_cons,List.append_assoc]
  cases e:putA (x:Int) with
  |nil=>rw [e] at h5;simp at h5
  |cons c t=>
   rw [e] at h1 h4
   obtain ⟨_,k2,k3⟩:=ok_tb (h1 c (by simp))
   rw [List.cons_append] at h4 ⊢
   refine Scan.ch k2 (k3 s) h4 (hl x (by simp)) (by simp) (by simp) ?_
   rw [← List.cons_append,List.drop_left]
   exact ih
theorem trn_col {c:Int} (h0:0≤c) (h1:c≤6) (s:Sy):colB c≠138∧trn s (colB c)=some {s with c:=c}:=by
 have:c=0∨c=1∨c=2∨c=3∨c=4∨c=5∨c=6:=by omega
 rcases this with rfl|rfl|rfl|rfl|rfl|rfl|rfl<;>exact ⟨by decide,rfl⟩
theorem scan_sw {out:List (List SR)} {row:List SR} {a b:Sy} {rest:List Int} {res:List (List SR)} (h0:0≤b.c) (h6:b.c≤6) (h:Scan out row b rest res):Scan out row a (swB a b ++ rest) res:=by
 obtain ⟨c,i,u⟩:=a
 obtain ⟨c',i',u'⟩:=b
 have h1:Scan out row ⟨c',i',u⟩ ((if u'=u then [] else [if u'=true then 130 else 131]) ++ rest) res:=by
  split
  ·rename_i e;subst e;exact h
  ·cases u'
   ·exact Scan.sw (by decide) rfl h
   ·exact Scan.sw (by decide) rfl h
 have h2:Scan out row ⟨c',i,u⟩ ((if i'=i then [] else [if i'=true then 128 else 129]) ++ ((if u'=u then [] else [if u'=true then 130 else 131]) ++ rest)) res:=by
  split
  ·rename_i e;subst e;exact h1
  ·cases i'
   ·exact Scan.sw (by decide) rfl h1
   ·exact Scan.sw (by decide) rfl h1
 simp only [swB,List.append_assoc]
 split
 ·rename_i e;subst e;exact h2
 ·obtain ⟨k1,k2⟩:=trn_col h0 h6 ⟨c,i,u⟩
  exact Scan.sw k1 k2 h2
theorem rowB_inR {l:List SR} (h:OkV l) (s:Sy):inR (rowB s l):=fun n hn=>⟨(rowB_tb l s h n hn).1,(rowB_tb l s h n hn).2.1⟩
theorem scan_row {out:List (List SR)} {rest:List Int} {res:List (List SR)} (hr:inR rest):∀ (l:List SR) (row:List SR) (s:Sy),OkV l→(∀ x ∈ l,0≤x.s.c∧x.s.c≤6)→Scan out (row ++ sng l) (lastS s l) rest res→Scan out row s (rowB s l ++ rest) res
 |[],row,s,_,_,h=>by simpa [rowB,sng,lastS] using h
 |x :: r,row,s,hv,hc,h=>by
  have hv':OkV r:=fun y hy=>hv y (by simp [hy])
  have ih:=scan_row hr r (row ++ sngl x.s (rns (strB x.t))) x.s hv' (fun y hy=>hc y (by simp [hy])) (by simpa [sng,List.append_assoc,lastS] using h)
  simp only [rowB,List.append_assoc]
  obtain ⟨h0,h6⟩:=hc x (by simp)
  refine scan_sw h0 h6 (scan_enc (fun n hn=>(List.mem_append.1 hn).elim (rowB_inR hv' _ n) (hr n)) _ row (chs_of (hv x (by simp))).2 ?_)
  exact ih
theorem txtB_inR {L:List (List SR)} {b:Bool} (h:∀ l ∈ L,RowG l):inR (txtB b L):=fun n hn=>⟨(txtB_tb L b h n hn).1,(txtB_tb L b h n hn).2.1⟩
theorem scan_tl:∀ (L:List (List SR)) (out:List (List SR)) (row:List SR) (s:Sy),(∀ l ∈ L,RowG l)→Scan out row s (txtB true L) (out ++ (normF row :: L.map fun l=>normF (sng l)))
 |[],out,row,s,_=>by simpa [txtB] using Scan.nil
 |x :: r,out,row,s,h=>by
  have hx:=h x (by simp)
  have h':∀ l ∈ r,RowG l:=fun y hy=>h y (by simp [hy])
  have ih:=scan_tl r (out ++ [normF row]) (sng x) (lastS sy0 x) h'
  simp only [txtB,if_true,List.cons_append,List.nil_append]
  refine Scan.nl (scan_row (txtB_inR h') x [] sy0 hx.v hx.col ?_)
  simpa [List.append_assoc] using ih
theorem push2 (A:List SR) {a b:List UInt8} (s:Sy) (ha:a≠[]) (hb:b≠[]):pushN (pushN A ⟨a,s,[]⟩) ⟨b,s,[]⟩=pushN A ⟨a ++ b,s,[]⟩:=by
 have hab:a ++ b≠[]:=by simp [ha]
 rcases snoc_cases A with rfl|⟨p,z,rfl⟩
 ·rw [pushN_nil,pushN_nil,if_neg ha,if_neg hab]
  have:=pushN_snoc [] ⟨a,s,[]⟩ ⟨b,s,[]⟩
  rw [if_neg hb,if_pos (by simp [alikeF])] at this
  exact this
 ·rw [pushN_snoc,pushN_snoc,if_neg ha,if_neg hab]
  have hal:alikeF z ⟨a ++ b,s,[]⟩=alikeF z ⟨a,s,[]⟩:=rfl
  rw [hal]
  split
  ·rename_i h
   rw [pushN_snoc,if_neg hb,if_pos (by simpa [alikeF] using h)]
   simp
  ·have e:p ++ [z,(⟨a,s,[]⟩:SR)]=(p ++ [z]) ++ [⟨a,s,[]⟩]:=by simp
   rw [e,pushN_snoc,if_neg hb,if_pos (by simp [alikeF])]
   simp
theorem encL_ne {x:Nat} (h:x ∈ REP):encL x≠[]:=fun e=>by have:=(encL_len h).2;rw [e] at this;simp at this
theorem fold_sngl (s:Sy):∀ (l:List Nat) (A:List SR) (a:List UInt8),a≠[]→(∀ x ∈ l,x ∈ REP)→(sngl s l).foldl pushN (pushN A ⟨a,s,[]⟩)=pushN A ⟨a ++ l.flatMap encL,s,[]⟩
 |[],A,a,_,_=>by simp [sngl]
 |x :: l,A,a,ha,hl=>by
  have hx:=encL_ne (hl x (by simp))
  have ih:=fold_sngl s l A (a ++ encL x) (by simp [ha]) fun y hy=>hl y (by simp [hy])
  have e:sngl s (x :: l)=⟨encL x,s,[]⟩ :: sngl s l:=rfl
  rw [e,List.foldl_cons,push2 A s ha hx,ih]
  simp [List.append_assoc]
theorem fold_sng:∀ (l:List SR) (A:List SR),OkV l→(∀ x ∈ l,x.t≠[])→(sng l).foldl pushN A=(l.map bare).foldl pushN A
 |[],A,_,_=>rfl
 |x :: l,A,hv,hn=>by
  have ih:=fold_sng l (pushN A (bare x)) (fun y hy=>hv y (by simp [hy])) fun y hy=>hn y (by simp [hy])
  obtain ⟨e1,e2⟩:=chs_of (hv x (by simp))
  have e:sng (x :: l)=sngl x.s (rns (strB x.t)) ++ sng l:=by simp [sng]
  rw [e,List.foldl_append,List.map_cons,List.foldl_cons,← ih]
  congr 1
  have hne:rns (strB x.t)≠[]:=fun k=>hn x (by simp) (by rw [e1,k];rfl)
  obtain ⟨c,r,k⟩:=List.exists_cons_of_ne_nil hne
  have hb:bare x=⟨encL c ++ r.flatMap encL,x.s,[]⟩:=by
   have:encL c ++ r.flatMap encL=x.t:=by rw [e1,k];simp
   rw [this];rfl
  rw [k] at e2 ⊢
  have e3:sngl x.s (c :: r)=⟨encL c,x.s,[]⟩ :: sngl x.s r:=rfl
  rw [e3,List.foldl_cons,fold_sngl x.s r A (encL c) (encL_ne (e2 c (by simp))) (fun y hy=>e2 y (by simp [hy])),hb]
theorem norm_sng {l:List SR} (h:RowG l):normF (sng l)=bareF l:=fold_sng l [] h.v fun x hx=>(h.mem x hx).2.1
theorem scan_txt {L:List (List SR)} (hL:L≠[]) (h:∀ l ∈ L,RowG l):Scan [] [] sy0 (txtB false L) (L.map bareF):=by
 obtain ⟨x,r,rfl⟩:=List.exists_cons_of_ne_nil hL
 have hx:=h x (by simp)
 have h':∀ l ∈ r,RowG l:=fun y hy=>h y (by simp [hy])
 have e:(x :: r).map bareF=[] ++ (normF (sng x) :: r.map fun l=>normF (sng l)):=by
  rw [norm_sng hx,List.map_cons,List.nil_append]
  congr 1
  exact List.map_congr_left fun l hl=>(norm_sng (h' l hl)).symm
 have ih:=scan_tl r [] (sng x) (lastS sy0 x) h'
 simp only [txtB,Bool.false_eq_true,if_false,List.nil_append]
 rw [e]
 exact scan_row (txtB_inR h') x [] sy0 hx.v hx.col (by simpa using ih)
def rowC:Sy→List (Nat × Sy)→List Int
 |_,[]=>[]
 |s,(c,t) :: r=>swB s t ++ (putA (c:Int) ++ rowC t r)
theorem swB_same (s:Sy):swB s s=[]:=by simp [swB]
theorem rowC_in (t:Sy) (r:List (Nat × Sy)):∀ l:List Nat,rowC t (l.map (fun c=>(c,t)) ++ r)=encA l ++ rowC t r
 |[]=>by simp [encA]
 |c :: l=>by
  simp only [List.map_cons,List.cons_append,rowC,swB_same,List.nil_append,rowC_in t r l,encA_cons,List.append_assoc]
theorem rowC_run (s t:Sy) (r:List (Nat × Sy)) {l:List Nat} (h:l≠[]):rowC s (l.map (fun c=>(c,t)) ++ r)=swB s t ++ (encA l ++ rowC t r):=by
 obtain ⟨c,l,rfl⟩:=List.exists_cons_of_ne_nil h
 simp only [List.map_cons,List.cons_append,rowC,rowC_in,encA_cons,List.append_assoc]
theorem rowB_C:∀ (l:List SR) (s:Sy),OkV l→(∀ x ∈ l,x.t≠[])→rowB s l=rowC s (charsR l)
 |[],_,_,_=>rfl
 |x :: r,s,hv,hn=>by
  have hne:rns (strB x.t)≠[]:=fun e=>hn x (by simp) (by rw [(chs_of (hv x (by simp))).1,e];rfl)
  rw [charsR_cons,runCh,rowC_run s x.s _ hne,rowB,rowB_C r x.s (fun y hy=>hv y (by simp [hy])) fun y hy=>hn y (by simp [hy])]
theorem rowB_bare {l:List SR} (h:RowG l):rowB sy0 (bareF l)=rowB sy0 l:=by
 obtain ⟨h1,h2,_⟩:=bareF_gd h
 rw [rowB_C _ _ (fun x hx=>(h1.all x hx).v) (fun x hx=>(h1.all x hx).t),rowB_C _ _ h.v (fun x hx=>(h.mem x hx).2.1),h2]
theorem txtB_bare:∀ (L:List (List SR)) (b:Bool),(∀ l ∈ L,RowG l)→txtB b (L.map bareF)=txtB b L
 |[],_,_=>rfl
 |x :: r,b,h=>by
  simp only [List.map_cons,txtB,rowB_bare (h x (by simp)),txtB_bare r true fun y hy=>h y (by simp [hy])]
theorem txtB_pos {L:List (List SR)} (hL:L≠[]) (h:∀ l ∈ L,RowG l):txtB false L≠[]:=by
 obtain ⟨x,r,rfl⟩:=List.exists_cons_of_ne_nil hL
 have hx:=h x (by simp)
 intro e
 simp only [txtB,Bool.false_eq_true,if_false,List.nil_append,List.append_eq_nil_iff] at e
 have h1:=e.1
 rw [rowB_C _ _ hx.v (fun y hy=>(hx.mem y hy).2.1)] at h1
 cases hc:charsR x with
 |nil=>
  have:=plainF_chars hx.v
  rw [hc] at this
  exact hx.ok.2.1 this
 |cons p q=>
  obtain ⟨c,s⟩:=p
  rw [hc] at h1
  simp only [rowC,List.append_eq_nil_iff] at h1
  have hm:(c,s) ∈ charsR x:=by rw [hc];simp
  obtain ⟨z,hz,hm⟩:=List.mem_flatMap.1 hm
  obtain ⟨c',hc',e'⟩:=List.mem_map.1 hm
  cases e'
  have:=((put_ok' ((chs_of (hx.v z hz)).2 c hc')).2 [] (by simp)).2
  rw [h1.2.1] at this
  simp at this
end Go.Gh
end
section
namespace Go.Gh
set_option linter.unusedSimpArgs false
set_option linter.unusedVariables false
set_option maxHeartbeats 4000000
open Go.RowKit
set_option maxRecDepth 4000
def gup (H:GHeap):Option (Value × GHeap)→Option (Value × GHeap)
 |some (v,H')=>some (v,⟨H'.t,H'.len,H.lim⟩)
 |none=>none
theorem gup_v {H:GHeap} {v:Value}:gup H (some (v,H.up))=some (v,H):=rfl
section
variable {call:GCall} {fr:Fr} {H:GHeap} {k:FuncId} {xs:List GArg}
theorem gcl:gdo call fr H (.call (.c (.func (.func k) #[] #[])) xs)=(evs fr xs).bind fun vs=>call k vs H:=by
 rw [gd_call]
 have:gtarget fr (.c (.func (.func k) #[] #[])) xs=(evs fr xs).map fun l=>(k,[] ++ l ++ []):=rfl
 rw [this]
 cases evs fr xs with
 |none=>rfl
 |some l=>simp
theorem gclM:gdoM call fr H (.call (.c (.func (.func k) #[] #[])) xs)=(evs fr xs).bind fun vs=>gup H (call k vs H.up):=by
 have:gtarget fr (.c (.func (.func k) #[] #[])) xs=(evs fr xs).map fun l=>(k,[] ++ l ++ []):=rfl
 simp only [gdoM,this]
 cases evs fr xs with
 |none=>rfl
 |some l=>
  simp only [Option.map_some,Option.bind_some,List.nil_append,List.append_nil]
  show (call k l H.up).map _=gup H (call k l H.up)
  cases call k l H.up<;>rfl
end
theorem RK:type_of% (And.intro @gcl (And.intro @gclM @gup_v)):=⟨@gcl,⟨@gclM,@gup_v⟩⟩
theorem rm64 {e:Option EqK} {a b:Int} (h0:0≤a) (hb:0 < b):gbin .rem e (.int .i64 a) (.int .i64 b)=some (.int .i64 (a % b)):=by
 rw [gb_rem (by omega),Int.tmod_eq_emod_of_nonneg h0]
structure Lb where
 h:Int
 m:Int
 s:Int
 f:Int
deriving DecidableEq,Inhabited
def lbC (x:Lb):List Value:=[.int .i64 x.h,.int .i64 x.m,.int .i64 x.s,.int .i64 x.f,.bool false]
def lbV (x:Lb):Value:=.agg #[.int .i64 x.h,.int .i64 x.m,.int .i64 x.s,.int .i64 x.f,.bool false]
def lb0:Lb:=⟨0,0,0,0⟩
theorem lb_agg {a b c d:Int}:some (Value.agg [Value.int .i64 a,.int .i64 b,.int .i64 c,.int .i64 d,.bool false].toArray)=some (lbV ⟨a,b,c,d⟩):=rfl
theorem lb_list (x:Lb):(lbV x).cells.toList=lbC x:=rfl
theorem lb_all (x:Lb):(lbV x).cells.all flatV=true:=by
 rw [← Array.all_toList];simp [lb_list,lbC,flatV]
theorem lbC_0 (x:Lb):(lbC x)[0]? =some (.int .i64 x.h):=rfl
theorem lbC_1 (x:Lb):(lbC x)[1]? =some (.int .i64 x.m):=rfl
theorem lbC_2 (x:Lb):(lbC x)[2]? =some (.int .i64 x.s):=rfl
theorem lbC_3 (x:Lb):(lbC x)[3]? =some (.int .i64 x.f):=rfl
theorem lbC_4 (x:Lb):(lbC x)[4]? =some (.bool false):=rfl
theorem lb_set {cs:List Value} {x:Lb} (h:cs.length=5):gsetn cs 0 5 (lbV x)=some (lbC x):=gsetn_all h rfl (by simp [flatV])
theorem lb_rdp {H:GHeap} {j:Nat} {x:Lb} {u:Nat} {b:Bool}:(H.put j (.cells (lbC x) u b)).rdn j 0 5=some (lbV x):=rdn_put_all rfl
theorem lb_rda {H:GHeap} {j:Nat} {x:Lb} {u:Nat} {b:Bool} (h:H.len=j):(H.add (some (.cells (lbC x) u b))).rdn j 0 5=some (lbV x):=rdn_add_all h rfl
theorem lb_g0 (x:Lb):gpart none 0 (lbV x)=some (.int .i64 x.h):=rfl
theorem lb_g1 (x:Lb):gpart none 1 (lbV x)=some (.int .i64 x.m):=rfl
theorem lb_g2 (x:Lb):gpart none 2 (lbV x)=some (.int .i64 x.s):=rfl
theorem lb_g3 (x:Lb):gpart none 3 (lbV x)=some (.int .i64 x.f):=rfl
theorem lb_g4 (x:Lb):gpart none 4 (lbV x)=some (.bool false):=rfl
theorem RLb:type_of% (And.intro (And.intro (And.intro (And.intro @lb_agg @lb_list) (And.intro @lb_all @lbC_0)) (And.intro (And.intro @lbC_1 @lbC_2) (And.intro @lbC_3 @lbC_4))) (And.intro (And.intro (And.intro @lb_set @lb_rdp) (And.intro @lb_rda @lb_g0)) (And.intro (And.intro @lb_g1 @lb_g2) (And.intro @lb_g3 @lb_g4)))):=⟨⟨⟨⟨@lb_agg,@lb_list⟩,⟨@lb_all,@lbC_0⟩⟩,⟨⟨@lbC_1,@lbC_2⟩,⟨@lbC_3,@lbC_4⟩⟩⟩,⟨⟨⟨@lb_set,@lb_rdp⟩,⟨@lb_rda,@lb_g0⟩⟩,⟨⟨@lb_g1,@lb_g2⟩,⟨@lb_g3,@lb_g4⟩⟩⟩⟩
def lbF (n f:Int):Lb:=⟨f / n / 3600,f / n / 60 % 60,f / n % 60,f % n⟩
def lbOk (n:Int) (x:Lb):Prop:=(0≤x.h∧x.h≤23)∧(0≤x.m∧x.m≤59)∧(0≤x.s∧x.s≤59)∧0≤x.f∧x.f < n
def rt2 (r:Int):Prop:=r=3∨r=5
theorem rt2_nm {r:Int} (h:rt2 r):nmn r=25∨nmn r=30:=by
 rcases h with rfl|rfl
 ·exact .inl rfl
 ·exact .inr rfl
theorem lbF_ok {n f:Int} (hn:n=25∨n=30) (h0:0≤f) (h1:f < 86400 * n):lbOk n (lbF n f)∧(((lbF n f).h * 60+(lbF n f).m) * 60+(lbF n f).s) * n+(lbF n f).f=f:=by
 unfold lbOk lbF
 rcases hn with rfl|rfl<;>simp only<;>omega
theorem of_2 (r:Int):gpart none 2 (ofV r)=some (.int .i64 (nmn r)):=rfl
theorem nom_ok {r:Int} (hr:0≤r∧r≤255) (H:GHeap):gev G 79 [.int .u8 r] H=some (.int .i64 (nmn r),H):=by
 refine gev_GWP (f:=79) rfl rfl rfl (fun Post hPost=>?_) H
 simp only [frameOf,Nat.reduceAdd]
 have h1:=of_ok hr
 repeat' (first|refine zz4 @g79.eq_1 @RK @h1 @of_2 ?_|(refine zh (fun hc=>?_) (fun hc=>?_)<;>try simp only [yL] at hc))
 exact hPost _
theorem drp_ok {r:Int} (H:GHeap):gev G 80 [.int .u8 r,.bool false] H=some (.int .i64 0,H):=by
 refine gev_GWP (f:=80) rfl rfl rfl (fun Post hPost=>?_) H
 simp only [frameOf,Nat.reduceAdd]
 repeat' (first|refine zz1 @g80.eq_1 ?_|(refine zh (fun hc=>?_) (fun hc=>?_)<;>try simp only [yL] at hc))
 exact hPost _
theorem rtE_ok {r:Int} (hr:0≤r∧r≤255) (H:GHeap):gev G 78 [.int .u8 r,.bool false] H=some (.int .i64 (if 0 < tk r then 0 else 3),H):=by
 refine gev_GWP (f:=78) rfl rfl rfl (fun Post hPost=>?_) H
 simp only [frameOf,Nat.reduceAdd]
 have h1:=tvalid_ok hr
 by_cases h:0 < tk r
 ·have hd:decide (0 < tk r)=true:=decide_eq_true h
  rw [if_pos h] at hPost
  repeat' (first|refine zz4 @g78.eq_1 @RK @h1 @hd ?_|(refine zh (fun hc=>?_) (fun hc=>?_)<;>try simp only [yL] at hc))
  exact hPost _
 ·have hd:decide (0 < tk r)=false:=decide_eq_false h
  rw [if_neg h] at hPost
  repeat' (first|refine zz4 @g78.eq_1 @RK @h1 @hd ?_|(refine zh (fun hc=>?_) (fun hc=>?_)<;>try simp only [yL] at hc))
  exact hPost _
section
variable {r:Int} (hr:rt2 r)
include hr
theorem rt2_u8:(0≤r∧r≤255)∧0 < tk r:=by rcases hr with rfl|rfl<;>decide
theorem rtE_2 (H:GHeap):gev G 78 [.int .u8 r,.bool false] H=some (.int .i64 0,H):=by
 obtain ⟨h1,h2⟩:=rt2_u8 hr
 rw [rtE_ok h1,if_pos h2]
theorem day_ok (H:GHeap):gev G 76 [.int .u8 r,.bool false] H=some (.int .i64 (86400 * nmn r),H):=by
 refine gev_GWP (f:=76) rfl rfl rfl (fun Post hPost=>?_) H
 simp only [frameOf,Nat.reduceAdd]
 have h1:=nom_ok (rt2_u8 hr).1
 have h2:=rtE_2 hr
 have hn:=rt2_nm hr
 repeat' (first|refine zz5 @g76.eq_1 @RK @drp_ok @h1 @h2 ?_|(refine zh (fun hc=>?_) (fun hc=>?_)<;>try simp only [yL] at hc))
 rw [show 86400 * nmn r - 1296 * 0=86400 * nmn r by omega]
 exact hPost _
theorem label_ok {f:Int} (h0:0≤f) (h1:f < 86400 * nmn r) (H:GHeap):gev G 37 [.int .u8 r,.bool false,.int .i64 f] H=some (.tuple #[lbV (lbF (nmn r) f),.int .i64 0],H):=by
 refine gev_GWP (f:=37) rfl rfl (by simp [litVal,lbV,litOk,litFlat]) (fun Post hPost=>?_) H
 simp only [frameOf,Nat.reduceAdd]
 have hw:=root_wf
 have hlim:=hw.1
 have k1:=nom_ok (rt2_u8 hr).1
 have k2:=rtE_2 hr
 have k3:=day_ok hr
 have hn:=rt2_nm hr
 have d0:decide (f < 0)=false:=decide_eq_false (by omega)
 have d1:decide (86400 * nmn r≤f)=false:=decide_eq_false (by omega)
 have e1:f+9 * 0 * (f / (600 * nmn r - 9 * 0))=f:=by simp
 have e2:∀ x:Int,f+0 * x=f:=fun x=>by simp
 generalize nmn r=n at *
 have q1:0≤f / n∧f / n≤f:=by rcases hn with rfl|rfl<;>omega
 have q2:0≤f / (600 * n - 9 * 0)∧f / (600 * n - 9 * 0)≤f:=by rcases hn with rfl|rfl<;>omega
 have q3:0≤f % (600 * n - 9 * 0)∧f % (600 * n - 9 * 0) < 600 * n:=by rcases hn with rfl|rfl<;>omega
 have hz:∀ a:Int,9 * 0 * a=0:=fun a=>by simp
 have hz2:∀ a:Int,0 * a=0:=fun a=>by simp
 repeat' (first|refine zz13 @g37.eq_1 @RK @RLb @drp_ok @k1 @k2 @k3 @d0 @d1 @dv64 @rm64 @e1 @e2 ?_|(refine zh (fun hc=>?_) (fun hc=>?_)<;>try simp only [yL] at hc))
 all_goals exact hPost _
end
end Go.Gh
end
