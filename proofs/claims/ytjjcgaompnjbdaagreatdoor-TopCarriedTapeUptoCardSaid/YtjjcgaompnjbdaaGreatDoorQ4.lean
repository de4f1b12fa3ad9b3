/-
  Parts of the proof: walks of the ghost functions and the laws of what they compute. No condition.
-/
import Derived.Test.YtjjcgaompnjbdaaGreatDoorQ3
import GoSem.Claim
import Derived.Test.YtjjcgaompnjbdaaGreatDoorK5
section
namespace Go.Gh
set_option linter.unusedSimpArgs false
set_option linter.unusedVariables false
set_option maxHeartbeats 4000000
open Go.RowKit
set_option maxRecDepth 4000
theorem runC_0 (x:SR):(runC x)[0]? =some (.string (strB x.t)):=rfl
theorem runC_1 (x:SR):(runC x)[1]? =some (.int .u8 x.s.c):=rfl
theorem runC_2 (x:SR):(runC x)[2]? =some (.bool x.s.i):=rfl
theorem runC_3 (x:SR):(runC x)[3]? =some (.bool x.s.u):=rfl
theorem runC_4 (x:SR):(runC x)[4]? =some (.string (strB x.y)):=rfl
theorem syC_0 (x:Sy):(syC x)[0]? =some (.int .u8 x.c):=rfl
theorem syC_1 (x:Sy):(syC x)[1]? =some (.bool x.i):=rfl
theorem syC_2 (x:Sy):(syC x)[2]? =some (.bool x.u):=rfl
theorem runC_flat (x:SR):(runC x).all flatV=true:=by simp [runC,flatV]
theorem syC_flat (x:Sy):(syC x).all flatV=true:=by simp [syC,flatV]
theorem run_cells (x:SR):(runV x).cells.toList=runC x:=rfl
theorem sy_cells (x:Sy):(syV x).cells.toList=syC x:=rfl
theorem run_cflat (x:SR):(runV x).cells.all flatV=true:=by
 rw [← Array.all_toList];exact runC_flat x
theorem sy_cflat (x:Sy):(syV x).cells.all flatV=true:=by
 rw [← Array.all_toList];exact syC_flat x
theorem gsetn_run {cs:List Value} {x:SR} (h:cs.length=5):gsetn cs 0 5 (runV x)=some (runC x):=gsetn_all h rfl (by simp [flatV])
theorem gsetn_sy {cs:List Value} {x:Sy} (h:cs.length=3):gsetn cs 0 3 (syV x)=some (syC x):=gsetn_all h rfl (by simp [flatV])
theorem fill_run {x:SR}:fillL (zeros [.string ⟨#[]⟩,.int .u8 0,.bool false,.bool false,.string ⟨#[]⟩] 1) [(0,5,runV x)]=some (runC x):=by
 simp [fillL,run_cells,runC_flat,zeros,runC_len]
theorem rdn_run {H:GHeap} {j:Nat} {x:SR} {u:Nat} {b:Bool} (h:H.len=j):(H.add (some (.cells (runC x) u b))).rdn j 0 5=some (runV x):=rdn_add_all h rfl
theorem rdn_run3 {H:GHeap} {j:Nat} {x:SR} {u:Nat} {b:Bool} (h:H.len=j):(H.add (some (.cells (runC x) u b))).rdn j 1 3=some (syV x.s):=by
 simp only [GHeap.rdn,cs_add_eq h];rfl
theorem rdn_runp {H:GHeap} {j:Nat} {x:SR} {u:Nat} {b:Bool}:(H.put j (.cells (runC x) u b)).rdn j 0 5=some (runV x):=rdn_put_all rfl
theorem rdn_run3p {H:GHeap} {j:Nat} {x:SR} {u:Nat} {b:Bool}:(H.put j (.cells (runC x) u b)).rdn j 1 3=some (syV x.s):=by
 simp only [GHeap.rdn,cs_put_same];rfl
theorem rdn_sy {H:GHeap} {j:Nat} {x:Sy} {u:Nat} {b:Bool} (h:H.len=j):(H.add (some (.cells (syC x) u b))).rdn j 0 3=some (syV x):=rdn_add_all h rfl
theorem rdn_syp {H:GHeap} {j:Nat} {x:Sy} {u:Nat} {b:Bool}:(H.put j (.cells (syC x) u b)).rdn j 0 3=some (syV x):=rdn_put_all rfl
theorem gb_eqR' {a b:SR}:gbin .eql (some (.parts [(0,none,.str),(1,some 3,.parts [(0,none,.int),(1,none,.bool),(2,none,.bool)]),(4,none,.str)])) (runV a) (runV b)=some (.bool (decide (a=b))):=gb_eqR
theorem gb_neR' {a b:SR}:gbin .neq (some (.parts [(0,none,.str),(1,some 3,.parts [(0,none,.int),(1,none,.bool),(2,none,.bool)]),(4,none,.str)])) (runV a) (runV b)=some (.bool (decide (¬ a=b))):=gb_neR
theorem gb_eqS' {a b:Sy}:gbin .eql (some (.parts [(0,none,.int),(1,none,.bool),(2,none,.bool)])) (syV a) (syV b)=some (.bool (decide (a=b))):=gb_eqS
theorem gb_neS' {a b:Sy}:gbin .neq (some (.parts [(0,none,.int),(1,none,.bool),(2,none,.bool)])) (syV a) (syV b)=some (.bool (decide (¬ a=b))):=gb_neS
theorem gb_eqE {e:Option EqK} {a:List UInt8}:gbin .eql e (.string (strB a)) (.string ⟨#[]⟩)=some (.bool (decide (a=[]))):=gb_eqlB (b:=[])
theorem gb_neE {e:Option EqK} {a:List UInt8}:gbin .neq e (.string (strB a)) (.string ⟨#[]⟩)=some (.bool (decide (¬ a=[]))):=gb_neqB (b:=[])
theorem RN:type_of% (And.intro (And.intro (And.intro (And.intro @runC_0 @runC_1) (And.intro @runC_2 @runC_3)) (And.intro (And.intro @runC_4 @syC_0) (And.intro @syC_1 @syC_2))) (And.intro (And.intro (And.intro @run_cells @sy_cells) (And.intro @run_cflat @sy_cflat)) (And.intro (And.intro (And.intro @gsetn_run @gsetn_sy) (And.intro @fill_run @rdn_run)) (And.intro (And.intro (And.intro @rdn_run3 @rdn_runp) (And.intro @rdn_run3p @rdn_sy)) (And.intro (And.intro (And.intro @rdn_syp @gb_eqR') (And.intro @gb_neR' @gb_eqS')) (And.intro @gb_neS' (And.intro @gb_eqE @gb_neE))))))):=⟨⟨⟨⟨@runC_0,@runC_1⟩,⟨@runC_2,@runC_3⟩⟩,⟨⟨@runC_4,@syC_0⟩,⟨@syC_1,@syC_2⟩⟩⟩,⟨⟨⟨@run_cells,@sy_cells⟩,⟨@run_cflat,@sy_cflat⟩⟩,⟨⟨⟨@gsetn_run,@gsetn_sy⟩,⟨@fill_run,@rdn_run⟩⟩,⟨⟨⟨@rdn_run3,@rdn_runp⟩,⟨@rdn_run3p,@rdn_sy⟩⟩,⟨⟨⟨@rdn_syp,@gb_eqR'⟩,⟨@gb_neR',@gb_eqS'⟩⟩,⟨@gb_neS',⟨@gb_eqE,@gb_neE⟩⟩⟩⟩⟩⟩⟩
theorem lit_run (x:SR):litOk (runV x)=true:=by simp [runV,litOk,litFlat]
theorem lit_sy (x:Sy):litOk (syV x)=true:=by simp [syV,litOk,litFlat]
def alikeF (a b:SR):Bool:=decide (a.s=b.s) && decide (a.y=[]) && decide (b.y=[])
theorem alike_ok (a b:SR) (H:GHeap):gev G 136 [runV a,runV b] H=some (.bool (alikeF a b),H):=by
 refine gev_GWP (f:=136) rfl (by simp [lit_run]) rfl (fun Post hPost=>?_) H
 have hw:=root_wf
 have hlim:=hw.1
 simp only [frameOf,Nat.reduceAdd]
 repeat' (first|refine zz2 @g136.eq_1 @RN ?_|(refine zh (fun hc=>?_) (fun hc=>?_)<;>try simp only [yL] at hc))
 case refine_1.refine_1=>
  have:alikeF a b=decide (b.y=[]):=by simp [alikeF, *]
  rw [this] at hPost
  exact hPost _
 all_goals
  have:alikeF a b=false:=by simp [alikeF, *]
  rw [this] at hPost
  exact hPost _
def lastR (l:List SR):SR:=l[l.length - 1]!
def pushN (out:List SR) (x:SR):List SR:=
 if x.t=[] then out else if 0 < out.length∧alikeF (lastR out) x=true then out.set (out.length - 1) {lastR out with t:=(lastR out).t ++ x.t} else out ++ [x]
def normF (l:List SR):List SR:=l.foldl pushN []
def tot (l:List SR):Nat:=(l.map fun x=>x.t.length).sum
theorem tot_nil:tot []=0:=rfl
theorem tot_cons (x:SR) (l:List SR):tot (x :: l)=x.t.length+tot l:=by simp [tot]
theorem tot_append (a b:List SR):tot (a ++ b)=tot a+tot b:=by simp [tot]
theorem tot_take (l:List SR) {j:Nat} (h:j < l.length):tot (l.take (j+1))=tot (l.take j)+l[j]!.t.length:=by
 rw [List.take_succ_eq_append_getElem h,tot_append,← getElem!_pos l j h]
 simp [tot]
theorem tot_le (l:List SR) (j:Nat):tot (l.take j)≤tot l:=by
 have h:tot l=tot (l.take j)+tot (l.drop j):=by rw [← tot_append,List.take_append_drop]
 omega
theorem last_split {l:List SR} (h:0 < l.length):∃ p,l=p ++ [lastR l]∧p.length=l.length - 1:=by
 refine ⟨l.take (l.length - 1),?_,by simp⟩
 have:=List.take_succ_eq_append_getElem (l:=l) (i:=l.length - 1) (by omega)
 rw [show l.length - 1+1=l.length from by omega,List.take_length,← getElem!_pos l _ (by omega)] at this
 exact this
theorem pushN_tot (out:List SR) (x:SR):tot (pushN out x)=tot out+x.t.length∧(pushN out x).length≤out.length+1:=by
 unfold pushN
 split
 ·rename_i h;rw [h];simp
 ·split
  ·rename_i h
   obtain ⟨p,e,hp⟩:=last_split h.1
   refine ⟨?_,by simp⟩
   generalize lastR out=z at *
   have:out.set (out.length - 1) {z with t:=z.t ++ x.t}=p ++ [{z with t:=z.t ++ x.t}]:=by
    rw [← hp]
    conv=>lhs;rw [e]
    simp
   rw [this,e,tot_append,tot_append]
   simp [tot];omega
  ·rw [tot_append];simp [tot]
theorem foldN_tot:∀ (l:List SR) (out:List SR),tot (l.foldl pushN out)=tot out+tot l∧(l.foldl pushN out).length≤out.length+l.length
 |[],out=>by simp [tot]
 |x :: l,out=>by
  have h1:=pushN_tot out x
  have h2:=foldN_tot l (pushN out x)
  rw [List.foldl_cons,tot_cons,List.length_cons]
  omega
theorem normF_tot (l:List SR):tot (normF l)=tot l∧(normF l).length≤l.length:=by
 have:=foldN_tot l []
 simp only [tot_nil,List.length_nil,Nat.zero_add] at this
 exact this
theorem normF_take {l:List SR} {j:Nat} (h:j < l.length):normF (l.take (j+1))=pushN (normF (l.take j)) l[j]!:=by
 rw [normF,List.take_succ_eq_append_getElem h,List.foldl_append,← getElem!_pos l j h];rfl
theorem last_le {l:List SR} (h:0 < l.length):(lastR l).t.length≤tot l:=by
 obtain ⟨p,e,_⟩:=last_split h
 generalize lastR l=z at *
 rw [e,tot_append]
 simp [tot]
theorem OR.setT {H0 H:GHeap} {w:Value} {out:List SR} (h:OR H0 H w out) {k:Nat} (hk:k < out.length) (t:List UInt8):
 ∃ H',gst none H (.pointer (some ⟨blk w,ofs w+k * 5,none⟩)) (.string (strB t))=some H'∧OR H0 H' w (out.set k {out[k]! with t:=t})∧But (fun z=>z ∈ idOf w) H H':=by
 obtain ⟨g,gc,e,hg,hm⟩:∃ g gc,w=.slice (some ⟨g,0,none⟩) out.length gc∧(gc=0∨gc=out.length+1)∧H.mine g=some (RunsC out,5):=by
  rcases h.own.at_ with ⟨_,e⟩|h
  ·omega
  ·exact h
 have hblk:blk w=g:=by rw [e];rfl
 have hofs:ofs w=0:=by rw [e];rfl
 obtain ⟨h1,h2⟩:=h.setc e (ys:=(RunsC out).set (k * 5) (.string (strB t))) (by simp)
 rw [RunsC_set _ _ _ hk] at h1 h2
 refine ⟨_,?_,?_,h2.mono fun z hz=>by rw [hz,e];simp [idOf]⟩
 ·rw [hblk,hofs,Nat.zero_add,gst_1,hm,Option.bind_some,gset_ok (by rw [RunsC_len];omega) flatV_str,Option.bind_some,RunsC_set _ _ _ hk]
 ·have:(out.set k {out[k]! with t:=t}).length=out.length:=by simp
  unfold OR
  rw [this];exact h1
theorem gb_addB {e:Option EqK} {a b:List UInt8} (h:a.length+b.length≤9223372036854775807):gbin .add e (.string (strB a)) (.string (strB b))=some (.string (strB (a ++ b))):=by
 have:=gb_addS (k:=e) (a:=a) (e:=strB b) (by simpa [toL,strB] using h)
 rw [this];simp [toL,strB]
end Go.Gh
end
section
namespace Go.Gh
set_option linter.unusedSimpArgs false
set_option linter.unusedVariables false
set_option maxHeartbeats 4000000
open Go.RowKit
set_option maxRecDepth 4000
theorem OR.res {H0 H:GHeap} {w:Value} {out:List SR} (h:OR H0 H w out) {i:Nat} {c:List Value} (m2:H.mine i=some (c,0)) (hc:c.length=1) (hi:H0.len≤i):
 gst (some 1) H (.pointer (some ⟨i,0,none⟩)) (rowV w)=some (H.put i (.cells [w] 0 true))∧OR H0 (H.put i (.cells [w] 0 true)) w out∧(H.put i (.cells [w] 0 true)).rdn i 0 1=some (rowV w):=by
 refine ⟨?_,?_,rdn_put_all rfl⟩
 ·have hg:gsetn c 0 1 (rowV w)=some [w]:=gsetn_all (vs:=#[w]) hc rfl (by simpa using h.flat)
  rw [gst_n,m2,Option.bind_some,hg];rfl
 ·have hB6:But (fun z=>z=i) H (H.put i (.cells [w] 0 true)):=(But.refl (S:=fun z=>z=i) h.same.wf).put rfl (mine_lt h.same.wf m2) _
  exact h.but hB6 (fun z hz e2=>by omega) fun a ha e2=>by
   have:=(h.ids ha).2.2
   rw [e2,m2] at this
   simp at this
theorem OR.weaken {H0 H1 H:GHeap} {v:Value} {l:List SR} (h:OR H1 H v l) (hs:Same H0 H1):OR H0 H v l:=OS.weaken h hs
theorem rowV_eq (w:Value):rowV w=.agg [w].toArray:=rfl
theorem fill_of {t:List UInt8} {s:Sy}:fillL [.string ⟨#[]⟩,.int .u8 0,.bool false,.bool false,.string ⟨#[]⟩] [(0,1,.string (strB t)),(1,3,syV s)]=some (runC ⟨t,s,[]⟩):=by
 have h1:(syV s).cells.toList=[.int .u8 s.c,.bool s.i,.bool s.u]:=rfl
 have h2:(Value.string (strB t)).cells.toList=[.string (strB t)]:=rfl
 simp [fillL,h1,h2,flatV,runC]
 rfl
theorem RR.sy {H:GHeap} {v:Value} {l:List SR} (h:RR H v l) {k:Nat} (hk:k < l.length):H.rdn (blk v) (ofs v+k * 5+1) 3=some (syV l[k]!.s):=by
 have h1:=h.rowN hk
 have h2:l[k]! =l[k]!:=rfl
 obtain ⟨a,gc,e,_⟩:=h.sl
 have h3:=h.rd.rdn (by decide) (c:=k * 5+1) (m:=3) (by decide) (by rw [RunsC_len];omega)
 rw [Nat.add_assoc,h3]
 have h4:(RunsC l).drop (k * 5+1)=((RunsC l).drop (k * 5)).drop 1:=by rw [List.drop_drop]
 have h5:=rows_part runC_len l k hk
 have h6:(((RunsC l).drop (k * 5)).drop 1).take 3=((((RunsC l).drop (k * 5)).take 5).drop 1).take 3:=by
  rw [List.drop_take,List.take_take];rfl
 rw [h4,h6]
 unfold RunsC
 rw [h5]
 rfl
end Go.Gh
end
section
namespace Go.Gh
set_option linter.unusedSimpArgs false
set_option linter.unusedVariables false
set_option maxHeartbeats 4000000
open Go.RowKit
set_option maxRecDepth 4000
def plainF (l:List SR):List UInt8:=l.flatMap (·.t)
theorem plainF_len (l:List SR):(plainF l).length=tot l:=by
 induction l with
 |nil=>rfl
 |cons x l ih=>
  rw [tot_cons,← ih]
  simp [plainF]
theorem plainF_take {l:List SR} {j:Nat} (h:j < l.length):plainF (l.take (j+1))=plainF (l.take j) ++ l[j]!.t:=by
 rw [List.take_succ_eq_append_getElem h,← getElem!_pos l j h]
 simp [plainF]
theorem plain_ok {H:GHeap} (hw:H.wf) {v:Value} {l:List SR} (hv:RR H v l) (hll:l.length≤16777216) (ht:tot l≤70368744177664):
 ∃ r H',gev G 102 [rowV v] H=some (r,H')∧(r=.string (strB (plainF l))∧Same H H'):=by
 refine gev_GW (f:=102) rfl fun Post hPost=>?_
 have hlim:=hw.1
 have hf:=hv.flat
 have hsl:=hv.isSl
 simp only [frameOf,Nat.reduceAdd]
 repeat' (first|refine zz6 @g102.eq_1 @rowV_eq @agg_all @agg_list @hf hsl.len ?_|(refine zh (fun hc=>?_) (fun hc=>?_)<;>try simp only [yL] at hc))
 have hSb:Same H (H.add (some (.cells [v] 0 true))):=(Same.refl hw).add _
 have hself:self (H.len+1)=.pointer (some ⟨H.len+1,0,none⟩):=rfl
 refine GW_loop (fun k fr H1=>∃ (j:Nat),k=l.length - j∧j≤l.length∧fr.get 3=some (self (H.len+1))∧fr.get 7=some (v)∧fr.get 8=some (.int .i64 l.length)∧fr.get 9=some (.int .i64 j)∧Bld (H.add (some (.cells [v] 0 true))) H1 (H.len+1) (plainF (l.take j))) ?_ l.length ?_
 case refine_2=>
  refine ⟨0,by omega,by omega,?_⟩
  simp only [↓yG,Nat.reduceEqDiff,↓reduceIte,Int.natCast_add,Int.cast_ofNat_Int,Int.natCast_zero,true_and,and_true,Option.some.injEq,Value.int.injEq,hself]
  have:=Bld.new hSb.wf
  rw [len_add] at this
  exact this
 rintro k fr H1 ⟨j,rfl,hj,f3,f7,f8,f9,hB⟩ J hJ
 have hw1:=hB.same.wf
 have hlim1:=hw1.1
 have hpl:=plainF_len (l.take j)
 have htl:=tot_le l j
 have hS:=hSb.trans hB.same
 by_cases hj1:j < l.length
 ·have e1:=(hv.later hw hS).rowN hj1
  have htk:=tot_take l hj1
  have htl2:=tot_le l (j+1)
  have hstep:=plainF_take hj1
  generalize hx:l[j]! =x at *
  have hS12:Same H1 ((H1.add (some (.cells [.string ⟨#[]⟩,.int .u8 0,.bool false,.bool false,.string ⟨#[]⟩] 0 true))).put H1.len (.cells (runC x) 0 true)):=(Same.refl hw1).new _ _
  repeat' (first|(exfalso;omega)|refine zz8 @g102.eq_1 @f3 @f7 @f8 @f9 @RN hsl.ix @e1 ?_|(refine zh (fun hc=>?_) (fun hc=>?_)<;>try simp only [yL] at hc))
  refine zc4 @f3 @f7 @f8 @f9 (writeS_ok (hB.later hS12) x.t (by omega)) fun r3 H3 hB3=>?_
  repeat' (first|(exfalso;omega)|refine zz5 @g102.eq_1 @f3 @f7 @f8 @f9 ?_|(refine zh (fun hc=>?_) (fun hc=>?_)<;>try simp only [yL] at hc))
  refine hJ _ _ ⟨l.length - (j+1),by omega,j+1,rfl,by omega,?_⟩
  simp only [↓yG,Nat.reduceEqDiff,↓reduceIte,Int.natCast_add,Int.cast_ofNat_Int,Int.natCast_zero,true_and,and_true,Option.some.injEq,Value.int.injEq,f3,f7,f8]
  rw [hstep];exact hB3
 ·obtain rfl:j=l.length:=by omega
  rw [List.take_length] at hB hpl
  repeat' (first|(exfalso;omega)|refine zz5 @g102.eq_1 @f3 @f7 @f8 @f9 ?_|(refine zh (fun hc=>?_) (fun hc=>?_)<;>try simp only [yL] at hc))
  refine zc4 @f3 @f7 @f8 @f9 (string_ok hB (by omega)) fun r3 H3 hq=>?_
  obtain ⟨rfl,hS3⟩:=hq
  repeat' (first|(exfalso;omega)|refine zz5 @g102.eq_1 @f3 @f7 @f8 @f9 ?_|(refine zh (fun hc=>?_) (fun hc=>?_)<;>try simp only [yL] at hc))
  exact hPost _ _ ⟨rfl,hSb.trans hS3⟩
def cntR (x:SR):Nat:=(rns (strB x.t)).length
def cntL (l:List SR):Nat:=(l.map cntR).sum
def vR (x:SR):Bool:=vldB (strB x.t)
def lenF (l:List SR):Int:=if l.all vR=true then (cntL l:Nat) else -1
theorem cntR_le (x:SR):cntR x≤x.t.length:=by
 have:=rns_len (strB x.t)
 rw [strB_size] at this
 exact this
theorem cntL_le (l:List SR):cntL l≤tot l:=by
 induction l with
 |nil=>exact Nat.le_refl _
 |cons x l ih=>
  have:=cntR_le x
  rw [tot_cons]
  simp only [cntL,List.map_cons,List.sum_cons] at ih ⊢
  omega
theorem cntL_append (a b:List SR):cntL (a ++ b)=cntL a+cntL b:=by simp [cntL]
theorem cntL_take {l:List SR} {j:Nat} (h:j < l.length):cntL (l.take (j+1))=cntL (l.take j)+cntR l[j]!:=by
 rw [List.take_succ_eq_append_getElem h,cntL_append,← getElem!_pos l j h]
 simp [cntL]
theorem Len_ok {H:GHeap} (hw:H.wf) {v:Value} {l:List SR} (hv:RR H v l) (hll:l.length≤16777216) (ht:tot l≤4398046511104):
 ∃ r H',gev G 124 [rowV v] H=some (r,H')∧(r=.int .i64 (lenF l)∧Same H H'):=by
 refine gev_GW (f:=124) rfl fun Post hPost=>?_
 have hlim:=hw.1
 have hf:=hv.flat
 have hsl:=hv.isSl
 simp only [frameOf,Nat.reduceAdd]
 repeat' (first|refine zz6 @g124.eq_1 @rowV_eq @agg_all @agg_list @hf hsl.len ?_|(refine zh (fun hc=>?_) (fun hc=>?_)<;>try simp only [yL] at hc))
 have hSb:Same H (H.add (some (.cells [v] 0 true))):=(Same.refl hw).add _
 refine GW_loop (fun k fr H1=>∃ (j:Nat),k=l.length - j∧j≤l.length∧fr.get 3=some (.int .i64 (cntL (l.take j)))∧fr.get 8=some (v)∧fr.get 9=some (.int .i64 l.length)∧fr.get 10=some (.int .i64 j)∧Same H H1∧(l.take j).all vR=true) ?_ l.length ?_
 case refine_2=>
  refine ⟨0,by omega,by omega,?_⟩
  simp only [↓yG,Nat.reduceEqDiff,↓reduceIte,Int.natCast_add,Int.cast_ofNat_Int,Int.natCast_zero,true_and,and_true,Option.some.injEq,Value.int.injEq]
  exact ⟨rfl,hSb,by simp⟩
 rintro k fr H1 ⟨j,rfl,hj,f3,f8,f9,f10,hS,hall⟩ J hJ
 have hw1:=hS.wf
 have hlim1:=hw1.1
 have htl:=tot_le l j
 have hcl:=cntL_le (l.take j)
 by_cases hj1:j < l.length
 ·have e1:=(hv.later hw hS).rowN hj1
  have htk:=tot_take l hj1
  have htl2:=tot_le l (j+1)
  have hstep:=cntL_take hj1
  have hmem:l[j]! ∈ l:=by rw [getElem!_pos l j hj1];exact List.getElem_mem _
  have hal:∀ h:vR l[j]! =true,(l.take (j+1)).all vR=true:=fun h=>by
   rw [List.take_succ_eq_append_getElem hj1,← getElem!_pos l j hj1,List.all_append,hall];simp only [List.all_cons,List.all_nil,h,Bool.and_true,Bool.true_and]
  have hbad:vR l[j]! =false→lenF l=-1:=fun h=>by
   rw [lenF,if_neg]
   intro hh
   have:=List.all_eq_true.1 hh _ hmem
   rw [h] at this;cases this
  generalize hx:l[j]! =x at *
  have hc1:=cntR_le x
  have hS12:Same H1 ((H1.add (some (.cells [.string ⟨#[]⟩,.int .u8 0,.bool false,.bool false,.string ⟨#[]⟩] 0 true))).put H1.len (.cells (runC x) 0 true)):=(Same.refl hw1).new _ _
  repeat' (first|(exfalso;omega)|refine zz8 @g124.eq_1 @f3 @f8 @f9 @f10 @RN hsl.ix @e1 ?_|(refine zh (fun hc=>?_) (fun hc=>?_)<;>try simp only [yL] at hc))
  refine zc4 @f3 @f8 @f9 @f10 (one_of (len_ok (s:=strB x.t) (by rw [strB_size];omega) _)) fun r3 H3 hq=>?_
  obtain ⟨rfl,rfl⟩:=hq
  cases hv2:vR x with
  |false=>
   have hl:lenN (strB x.t)=-1:=by
    unfold vR at hv2
    rw [lenN_eq,hv2];rfl
   rw [hl]
   repeat' (first|(exfalso;omega)|refine zz5 @g124.eq_1 @f3 @f8 @f9 @f10 ?_|(refine zh (fun hc=>?_) (fun hc=>?_)<;>try simp only [yL] at hc))
   exact hPost _ _ ⟨by rw [hbad hv2],hS.trans hS12⟩
  |true=>
   have hl:lenN (strB x.t)=(cntR x:Nat):=by
    unfold vR at hv2
    rw [lenN_eq,hv2];rfl
   rw [hl]
   repeat' (first|(exfalso;omega)|refine zz5 @g124.eq_1 @f3 @f8 @f9 @f10 ?_|(refine zh (fun hc=>?_) (fun hc=>?_)<;>try simp only [yL] at hc))
   refine hJ _ _ ⟨l.length - (j+1),by omega,j+1,rfl,by omega,?_⟩
   rw [hstep]
   simp only [↓yG,Nat.reduceEqDiff,↓reduceIte,Int.natCast_add,Int.cast_ofNat_Int,Int.natCast_zero,true_and,and_true,Option.some.injEq,Value.int.injEq,f8,f9]
   exact ⟨hS.trans hS12,hal hv2⟩
 ·obtain rfl:j=l.length:=by omega
  rw [List.take_length] at f3 hall
  repeat' (first|(exfalso;omega)|refine zz5 @g124.eq_1 @f3 @f8 @f9 @f10 ?_|(refine zh (fun hc=>?_) (fun hc=>?_)<;>try simp only [yL] at hc))
  exact hPost _ _ ⟨by rw [lenF,if_pos hall],hS⟩
end Go.Gh
end
section
namespace Go.Gh
set_option linter.unusedSimpArgs false
set_option linter.unusedVariables false
set_option maxHeartbeats 4000000
open Go.RowKit
set_option maxRecDepth 4000
theorem OS.down {s u n:Nat} {H H':GHeap} {v:Value} {xs:List Value} (hw:H.wf) (h:OS s u H.up H' v n xs):OS s u H (H'.down H.lim) v n xs:=by
 refine ⟨Same.down hw h.same,⟨h.own.len,h.own.at_.imp id fun ⟨i,gc,e,hg,hm⟩=>⟨i,gc,e,hg,?_⟩⟩,h.young⟩
 refine mine_down hm ?_
 have h1:=h.same.lim
 have h2:H.up.lim=H.len:=rfl
 have:=hw.1
 omega
theorem OR.down {H H':GHeap} {v:Value} {l:List SR} (hw:H.wf) (h:OR H.up H' v l):OR H (H'.down H.lim) v l:=OS.down hw h
theorem RR.up {H:GHeap} {v:Value} {l:List SR} (h:RR H v l):RR H.up v l:=⟨h.rd,h.sl⟩
theorem TR.up {H:GHeap} {v:Value} {l:List VR'} (h:TR H v l):TR H.up v l:=⟨⟨h.rd.rd,h.rd.sl⟩,fun x hx=>(h.rows x hx).up⟩
structure ArgR (H:GHeap) (a:Value) (A:List SR):Prop where
 rr:RR H a A
 len:A.length≤1048576
 each:∀ x ∈ A,x.t.length≤1048576∧x.y.length≤1048576
theorem tot_bound {B:Nat}:∀ {l:List SR},(∀ x ∈ l,x.t.length≤B)→tot l≤l.length * B
 |[],_=>by simp [tot]
 |x :: l,h=>by
  have h1:=h x (by simp)
  have h2:=tot_bound (l:=l) fun y hy=>h y (by simp [hy])
  rw [tot_cons,List.length_cons,Nat.add_mul]
  omega
theorem ArgR.tot {H:GHeap} {a:Value} {A:List SR} (h:ArgR H a A):Go.Gh.tot A≤1099511627776:=by
 have h1:=tot_bound (l:=A) fun x hx=>(h.each x hx).1
 have h2:=Nat.mul_le_mul_right 1048576 h.len
 omega
theorem ArgR.later {H H':GHeap} {a:Value} {A:List SR} (h:ArgR H a A) (hw:H.wf) (hs:Same H H'):ArgR H' a A:=⟨h.rr.later hw hs,h.len,h.each⟩
theorem drop_bangR {l:List SR} {n:Nat} (h:n < l.length):l.drop n=l[n]! :: l.drop (n+1):=by rw [List.drop_eq_getElem_cons h,getElem!_pos l n h]
end Go.Gh
end
section
namespace Go.Gh
set_option linter.unusedSimpArgs false
set_option linter.unusedVariables false
set_option maxHeartbeats 4000000
open Go.RowKit
set_option maxRecDepth 4000
def okS (s:Sy):Bool:=decide (s.c≤6)
theorem Valid_ok (s:Sy) (H:GHeap):gev G 135 [syV s] H=some (.bool (okS s),H):=by
 refine gev_GWP (f:=135) rfl (by simp [lit_sy]) rfl (fun Post hPost=>?_) H
 have hw:=root_wf
 have hlim:=hw.1
 simp only [frameOf,Nat.reduceAdd]
 repeat' (first|refine zz2 @g135.eq_1 @RN ?_|(refine zh (fun hc=>?_) (fun hc=>?_)<;>try simp only [yL] at hc))
 exact hPost _
def yR (x:SR):Bool:=vldB (strB x.y)
def chk1 (p:Option SR) (x:SR):Int:=
 if vR x=false then 10 else if x.t=[] then 4 else if okS x.s=false then 12 else if yR x=false then 10 else
  match p with
  |some z=>if alikeF z x=true then 8 else 0
  |none=>0
def chkGo:Option SR→List SR→Int
 |_,[]=>0
 |p,x :: r=>if chk1 p x=0 then chkGo (some x) r else chk1 p x
def checkF (l:List SR):Int:=if 16 < l.length then 9 else chkGo none l
def prevR (l:List SR):Nat→Option SR
 |0=>none
 |j+1=>some l[j]!
def ShR (l:List SR):Prop:=∀ x ∈ l,x.t.length≤140737488355328∧x.y.length≤140737488355328
theorem check_ok {H:GHeap} (hw:H.wf) {v:Value} {l:List SR} (hv:RR H v l) (hll:l.length≤4611686018427387904) (hsh:ShR l):
 ∃ r H',gev G 81 [rowV v] H=some (r,H')∧(r=.int .i64 (checkF l)∧Same H H'):=by
 refine gev_GW (f:=81) rfl fun Post hPost=>?_
 have hlim:=hw.1
 have hf:=hv.flat
 have hsl:=hv.isSl
 simp only [frameOf,Nat.reduceAdd]
 have hSb:Same H (H.add (some (.cells [v] 0 true))):=(Same.refl hw).add _
 repeat' (first|refine zz6 @g81.eq_1 @rowV_eq @agg_all @agg_list @hf hsl.len ?_|(refine zh (fun hc=>?_) (fun hc=>?_)<;>try simp only [yL] at hc))
 case refine_1=>exact hPost _ _ ⟨by rw [checkF,if_pos (by omega)],hSb⟩
 have hcf:checkF l=chkGo none l:=by rw [checkF,if_neg (by omega)]
 refine GW_loop (fun k fr H1=>∃ (j:Nat),k=l.length - j∧j≤l.length∧fr.get 1=some (.pointer (some ⟨H.len,0,none⟩))∧fr.get 10=some (v)∧fr.get 11=some (.int .i64 l.length)∧fr.get 12=some (.int .i64 j)∧Same H H1∧H1.rd H.len 0=some v∧H.len < H1.len∧checkF l=chkGo (prevR l j) (l.drop j)) ?_ l.length ?_
 rotate_left
 ·refine ⟨0,by omega,by omega,?_⟩
  simp only [↓yG,Nat.reduceEqDiff,↓reduceIte,Int.natCast_add,Int.cast_ofNat_Int,Int.natCast_zero,true_and,and_true,Option.some.injEq,Value.int.injEq]
  exact ⟨hSb,rd_add_eq rfl,by rw [len_add];omega,hcf⟩
 rintro k fr H1 ⟨j,rfl,hj,f1,f10,f11,f12,hS,hr0,hlt0,hck⟩ J hJ
 have hw1:=hS.wf
 have hlim1:=hw1.1
 by_cases hj1:j < l.length
 ·have hvl:=hv.later hw hS
  have e1:=hvl.rowN hj1
  have hmem:l[j]! ∈ l:=by rw [getElem!_pos l j hj1];exact List.getElem_mem _
  have hs1:=hsh _ hmem
  rw [drop_bangR hj1] at hck
  have hpn:prevR l (j+1)=some l[j]!:=rfl
  generalize hx:l[j]! =x at *
  obtain ⟨H2,hH2⟩:∃ H2,H2=(H1.add (some (.cells [.string ⟨#[]⟩,.int .u8 0,.bool false,.bool false,.string ⟨#[]⟩] 0 true))).put H1.len (.cells (runC x) 0 true):=⟨_,rfl⟩
  have hS12:Same H1 H2:=hH2 ▸ (Same.refl hw1).new _ _
  have x5:H2.rdn H1.len 0 5=some (runV x):=by rw [hH2,rdn_runp]
  have x3:H2.rdn H1.len 1 3=some (syV x.s):=by rw [hH2,rdn_run3p]
  have x0:H2.rd H1.len 0=some (.string (strB x.t)):=by rw [hH2,rd_put_same];rfl
  have x4:H2.rd H1.len 4=some (.string (strB x.y)):=by rw [hH2,rd_put_same];rfl
  have hr2:H2.rd H.len 0=some v:=by rw [hS12.rd hlt0];exact hr0
  have hS2:=hS.trans hS12
  have hl2:H.len < H2.len:=Nat.lt_of_lt_of_le hlt0 hS12.len
  have hend:∀ {e:Int},chk1 (prevR l j) x=e→e≠0→Post (.int .i64 e) H2:=fun h1 h2=>hPost _ _ ⟨by rw [hck,chkGo,if_neg (by rw [h1];exact h2),h1],hS2⟩
  have hgo:chk1 (prevR l j) x=0→checkF l=chkGo (some x) (l.drop (j+1)):=fun h1=>by rw [hck,chkGo,if_pos h1]
  clear hPost
  repeat' (first|(exfalso;omega)|refine zz8 @g81.eq_1 @f1 @f10 @f11 @f12 @RN hsl.ix @e1 ?_|(refine zh (fun hc=>?_) (fun hc=>?_)<;>try simp only [yL] at hc))
  rw [← hH2]
  refine zc4 @f1 @f10 @f11 @f12 (one_of (valid_ok (s:=strB x.t) (by rw [strB_size];omega) _)) fun r3 H3 hq=>?_
  obtain ⟨rfl,rfl⟩:=hq
  cases hv1:vldB (strB x.t) with
  |false=>
   repeat' (first|(exfalso;omega)|refine zz5 @g81.eq_1 @f1 @f10 @f11 @f12 ?_|(refine zh (fun hc=>?_) (fun hc=>?_)<;>try simp only [yL] at hc))
   exact hend (by unfold chk1 vR;rw [hv1,if_pos rfl]) (by decide)
  |true=>
   have c1:¬ vR x=false:=by unfold vR;rw [hv1];decide
   repeat' (first|(exfalso;omega)|refine zz8 @g81.eq_1 @f1 @f10 @f11 @f12 @RN @x0 @x3 ?_|(refine zh (fun hc=>?_) (fun hc=>?_)<;>try simp only [yL] at hc))
   case refine_1=>exact hend (by unfold chk1;rw [if_neg c1,if_pos hc]) (by decide)
   case' refine_2=>have c2:¬ x.t=[]:=hc
   refine zc4 @f1 @f10 @f11 @f12 (one_of (Valid_ok x.s _)) fun r4 H4 hq=>?_
   obtain ⟨rfl,rfl⟩:=hq
   cases hv2:okS x.s with
   |false=>
    repeat' (first|(exfalso;omega)|refine zz5 @g81.eq_1 @f1 @f10 @f11 @f12 ?_|(refine zh (fun hc=>?_) (fun hc=>?_)<;>try simp only [yL] at hc))
    exact hend (by unfold chk1;rw [if_neg c1,if_neg c2,hv2,if_pos rfl]) (by decide)
   |true=>
    have c3:¬ okS x.s=false:=by rw [hv2];decide
    repeat' (first|(exfalso;omega)|refine zz6 @g81.eq_1 @f1 @f10 @f11 @f12 @x4 ?_|(refine zh (fun hc=>?_) (fun hc=>?_)<;>try simp only [yL] at hc))
    refine zc4 @f1 @f10 @f11 @f12 (one_of (valid_ok (s:=strB x.y) (by rw [strB_size];omega) _)) fun r5 H5 hq=>?_
    obtain ⟨rfl,rfl⟩:=hq
    cases hv3:vldB (strB x.y) with
    |false=>
     repeat' (first|(exfalso;omega)|refine zz5 @g81.eq_1 @f1 @f10 @f11 @f12 ?_|(refine zh (fun hc=>?_) (fun hc=>?_)<;>try simp only [yL] at hc))
     exact hend (by unfold chk1;rw [if_neg c1,if_neg c2,if_neg c3];unfold yR;rw [hv3,if_pos rfl]) (by decide)
    |true=>
     have c4:¬ yR x=false:=by unfold yR;rw [hv3];decide
     cases j with
     |zero=>
      have h0:chk1 (prevR l 0) x=0:=by unfold chk1;rw [if_neg c1,if_neg c2,if_neg c3,if_neg c4];rfl
      have d0:decide ((0:Int) < ((0:Nat):Int))=false:=rfl
      repeat' (first|(exfalso;omega)|refine zz6 @g81.eq_1 @f1 @f10 @f11 @f12 @d0 ?_|(refine zh (fun hc=>?_) (fun hc=>?_)<;>try simp only [yL] at hc))
      refine hJ _ _ ⟨l.length - (0+1),by omega,0+1,rfl,by omega,?_⟩
      simp only [↓yG,Nat.reduceEqDiff,↓reduceIte,Int.natCast_add,Int.cast_ofNat_Int,Int.natCast_zero,true_and,and_true,Option.some.injEq,Value.int.injEq,f1,f10,f11]
      exact ⟨hS2,hr2,hl2,by rw [hpn];exact hgo h0⟩
     |succ i=>
      have hvl2:=hv.later hw hS2
      have e2:=hvl2.rowN (k:=i) (by omega)
      have e3:=hvl2.sy (k:=i) (by omega)
      have e4:H5.rd (blk v) (ofs v+i * 5+4)=some (.string (strB l[i]!.y)):=hvl2.row (k:=i) (c:=4) (by omega) (by decide)
      have hi1:(((i+1:Nat):Int) - 1).toNat=i:=by omega
      have hpp:prevR l (i+1)=some l[i]!:=rfl
      rw [hpp] at hend hgo
      generalize l[i]! =z at *
      have hend8:alikeF z x=true→Post (.int .i64 8) H5:=fun h=>hend (by unfold chk1;rw [if_neg c1,if_neg c2,if_neg c3,if_neg c4];simp only;rw [if_pos h]) (by decide)
      have hgo8:¬ alikeF z x=true→checkF l=chkGo (some x) (l.drop (i+1+1)):=fun h=>hgo (by unfold chk1;rw [if_neg c1,if_neg c2,if_neg c3,if_neg c4];simp only;rw [if_neg h])
      repeat' (first|(exfalso;omega)|refine zz15 @g81.eq_1 @f1 @f10 @f11 @f12 @RN @hr2 hsl.ix @hi1 @e2 @e3 @e4 @x5 @x3 @x4 ?_|(refine zh (fun hc=>?_) (fun hc=>?_)<;>try simp only [yL] at hc))
      refine zc4 @f1 @f10 @f11 @f12 (one_of (alike_ok z x _)) fun r6 H6 hq=>?_
      obtain ⟨rfl,rfl⟩:=hq
      cases hal:alikeF z x with
      |true=>
       repeat' (first|(exfalso;omega)|refine zz5 @g81.eq_1 @f1 @f10 @f11 @f12 ?_|(refine zh (fun hc=>?_) (fun hc=>?_)<;>try simp only [yL] at hc))
       exact hend8 hal
      |false=>
       repeat' (first|(exfalso;omega)|refine zz5 @g81.eq_1 @f1 @f10 @f11 @f12 ?_|(refine zh (fun hc=>?_) (fun hc=>?_)<;>try simp only [yL] at hc))
       refine hJ _ _ ⟨l.length - (i+1+1),by omega,i+1+1,rfl,by omega,?_⟩
       simp only [↓yG,Nat.reduceEqDiff,↓reduceIte,Int.natCast_add,Int.cast_ofNat_Int,Int.natCast_zero,true_and,and_true,Option.some.injEq,Value.int.injEq,f1,f10,f11]
       exact ⟨hS2,hr2,hl2,by rw [hpn];exact hgo8 (by rw [hal];decide)⟩
 ·obtain rfl:j=l.length:=by omega
  rw [List.drop_length] at hck
  repeat' (first|(exfalso;omega)|refine zz5 @g81.eq_1 @f1 @f10 @f11 @f12 ?_|(refine zh (fun hc=>?_) (fun hc=>?_)<;>try simp only [yL] at hc))
  exact hPost _ _ ⟨by rw [hck];rfl,hS⟩
end Go.Gh
end
section
namespace Go.Gh
set_option linter.unusedSimpArgs false
set_option linter.unusedVariables false
set_option maxHeartbeats 4000000
def tk (r:Int):Int:=if r=1 then 5005 else if r=2 then 5000 else if r=3 then 4800 else if r=4 then 4004 else if r=5 then 4000 else if r=6 then 2400 else if r=7 then 2002 else 0
def cdr (r:Int):Bool:=decide (r=4∨r=7)
def rnd (n d:Int):Int:=if d≤2 * (n % d) then n / d+1 else n / d
theorem rnd_near {n d:Int} (hd:0 < d):-d < 2 * (d * rnd n d - n)∧2 * (d * rnd n d - n)≤d:=by
 have h1:=Int.emod_add_mul_ediv n d
 have h2:=Int.emod_nonneg n (Int.ne_of_gt hd)
 have h3:=Int.emod_lt_of_pos n hd
 unfold rnd
 split
 ·rw [Int.mul_add]
  omega
 ·omega
theorem near_le {d a b x y:Int} (hd:0 < d) (h:a≤b) (ha:2 * (d * x - a)≤d) (hb:-d < 2 * (d * y - b)):x≤y:=by
 refine Int.not_lt.1 fun hh=>?_
 have:d * (y+1)≤d * x:=Int.mul_le_mul_of_nonneg_left (by omega) (Int.le_of_lt hd)
 rw [Int.mul_add] at this
 omega
theorem rnd_mono {a b d:Int} (hd:0 < d) (h:a≤b):rnd a d≤rnd b d:=near_le hd h (rnd_near hd).2 (rnd_near hd).1
structure SpOk (a b i o i' o':Int):Prop where
 ta:0 < tk a
 tb:0 < tk b
 old:0≤i∧i < o∧o≤5184000
 new:0≤i'∧i' < o'∧o'≤5184000
 ei:i'=rnd (i * tk a) (tk b)
 eo:o'=max (rnd (o * tk a) (tk b)) (i'+1)
 ti:i * tk a≤10378368000
 ti':i' * tk b≤10378368000
 di:i≤10378368000 / tk a
 di':i'≤10378368000 / tk b
theorem SpOk.mono {a b i o i' o' j u j' u':Int} (h:SpOk a b i o i' o') (k:SpOk a b j u j' u') (hij:i≤j):i'≤j':=by
 rw [h.ei,k.ei]
 exact rnd_mono h.tb (Int.mul_le_mul_of_nonneg_right hij (Int.le_of_lt h.ta))
end Go.Gh
end
section
namespace Go.Gh
set_option linter.unusedSimpArgs false
set_option linter.unusedVariables false
set_option maxHeartbeats 4000000
open Go.RowKit
set_option maxRecDepth 4000
structure Rg where
 nm:List UInt8
 t:Int
 h:Int
 l:Int
 w:Int
 al:Int
 bt:Bool
deriving DecidableEq,Inhabited
structure Ev where
 id:Int
 i:Int
 o:Int
 rg:List UInt8
 kd:Int
 sp:List UInt8
 v:Value
 L:List VR'
deriving Inhabited
structure Cm where
 id:Int
 ev:Int
 fr:Int
 to:Int
 au:List UInt8
 tx:List UInt8
 dn:Bool
 lo:Bool
deriving DecidableEq,Inhabited
structure Dc where
 ti:List UInt8
 la:List UInt8
 rt:Int
 dr:Bool
 last:Int
 rv:Value
 R:List Rg
 ev:Value
 E:List Ev
 cv:Value
 C:List Cm
deriving Inhabited
def Ev.rows (e:Ev):List (List SR):=e.L.map (·.2)
def capB (b:UInt8):Bool:=decide (65≤b.toNat∧b.toNat≤90)
def namB (b:UInt8):Bool:=decide ((65≤b.toNat∧b.toNat≤90)∨(48≤b.toNat∧b.toNat≤57)∨b.toNat=95∨b.toNat=45)
def nameF (l:List UInt8):Bool:=decide (1≤l.length∧l.length≤16) && capB l[0]! && l.all namB
def rgOk (r:Rg):Prop:=nameF r.nm=true∧(0≤r.t∧r.t≤14)∧(1≤r.h∧r.h≤15 - r.t)∧(0≤r.l∧r.l≤31)∧(1≤r.w∧r.w≤32 - r.l)∧1≤r.al∧r.al≤3
def dfl:Rg:=⟨[],11,4,0,32,2,true⟩
def usabl (r:Rg):Prop:=r=dfl∨rgOk r
def rgsOk (l:List Rg):Prop:=l.length≤16∧∀ j,j < l.length→rgOk l[j]!∧(0 < j→l[j]!.nm≠l[j - 1]!.nm∧Op.bytesLess (strB l[j]!.nm).toList (strB l[j - 1]!.nm).toList=false)
def findR (l:List Rg) (n:List UInt8):Option Rg:=if n=[] then some dfl else l.find? fun r=>decide (r.nm=n)
def rowOk (l:List SR):Prop:=checkF l=0∧plainF l≠[]∧(plainF l)[0]!≠32∧(plainF l)[(plainF l).length - 1]!≠32∧Go.Lib.contains (plainF l) [32,32]=false∧lenF l≤32
def plcOk (r:Rg) (l:List Int):Prop:=usabl r∧(l.length:Int)≤r.h∧∀ n ∈ l,0≤n∧n≤r.w
def evRest (R:List Rg) (rg:List UInt8) (kd:Int) (sp:List UInt8) (L:List (List SR)):Prop:=
 (1≤kd∧kd≤4)∧(sp=[]∨nameF sp=true)∧(1≤L.length∧L.length≤4)∧(∀ x ∈ L,rowOk x)∧∃ r,findR R rg=some r∧plcOk r (L.map lenF)
def evOk (R:List Rg) (e:Ev):Prop:=(1≤e.id∧e.id≤1099511627776)∧(0≤e.i∧e.i < e.o∧e.o≤5184000)∧evRest R e.rg e.kd e.sp e.rows
def lessE (a b:Ev):Prop:=a.i < b.i∨(a.i=b.i∧a.id < b.id)
def lenS:List Int→Int→Int
 |[],a=>a
 |n :: r,a=>if n < 0 then -1 else lenS r (a+n)
def lenE (L:List (List SR)):Int:=lenS (L.map lenF) (max ((L.length:Int) - 1) 0)
def hdrOk (d:Dc):Prop:=vldB (strB d.ti)=true∧d.ti.length≤400∧(d.la=[]∨nameF d.la=true)∧0 < tk d.rt∧(d.dr=true→cdr d.rt=true)∧0≤d.last∧d.last≤1099511627776
def evsOk (d:Dc):Prop:=d.E.length≤400∧∀ j,j < d.E.length→evOk d.R d.E[j]!∧d.E[j]!.id≤d.last∧(0 < j→lessE d.E[j - 1]! d.E[j]!)∧∀ k,k < j→d.E[k]!.id≠d.E[j]!.id
def ancOk (last:Int) (E:List Ev) (c:Cm):Prop:=(1≤c.ev∧c.ev≤last)∧(c.lo=true→c.fr=0∧c.to=0)∧(c.lo=false→∃ k,k < E.length∧E[k]!.id=c.ev∧0≤c.fr∧c.fr < c.to∧c.to≤lenE E[k]!.rows)
def cmOk (last:Int) (E:List Ev) (C:List Cm) (j:Nat):Prop:=
 (1≤C[j]!.id∧C[j]!.id≤last)∧(0 < j→C[j - 1]!.id < C[j]!.id)∧(∀ k,k < E.length→E[k]!.id≠C[j]!.id)∧ancOk last E C[j]!∧nameF C[j]!.au=true∧vldB (strB C[j]!.tx)=true∧C[j]!.tx≠[]∧C[j]!.tx.length≤400
def cmsOk (d:Dc):Prop:=d.C.length≤64∧∀ j,j < d.C.length→cmOk d.last d.E d.C j
def dcOk (d:Dc):Prop:=hdrOk d∧rgsOk d.R∧evsOk d∧cmsOk d
def kc (f:Int→Int):Int→List Cm→List Cm
 |_,[]=>[]
 |k,c :: r=>if c.lo=true then kc f k r else { c with id:=k+1,ev:=f c.ev } :: kc f (k+1) r
structure EvTo (a b:Int) (j:Nat) (e e':Ev):Prop where
 id:e'.id=j+1
 sp:SpOk a b e.i e.o e'.i e'.o
 rg:e'.rg=e.rg
 kd:e'.kd=e.kd
 sk:e'.sp=e.sp
 rows:e'.rows=e.rows
structure DcTo (d:Dc) (to:Int) (drop:Bool) (x:Dc):Prop where
 ti:x.ti=d.ti
 la:x.la=d.la
 rt:x.rt=to
 dr:x.dr=drop
 R:x.R=d.R
 len:x.E.length=d.E.length
 ev:∀ j,j < d.E.length→EvTo d.rt to j d.E[j]! x.E[j]!
 cm:∃ f:Int→Int,(∀ k,k < d.E.length→f d.E[k]!.id=k+1)∧x.C=kc f d.E.length d.C
 last:x.last=d.E.length+x.C.length
end Go.Gh
end
section
namespace Go.Gh
set_option linter.unusedSimpArgs false
set_option linter.unusedVariables false
set_option maxHeartbeats 4000000
open Go.RowKit
set_option maxRecDepth 4000
def rgC (r:Rg):List Value:=[.string (strB r.nm),.int .i64 r.t,.int .i64 r.h,.int .i64 r.l,.int .i64 r.w,.int .u8 r.al,.bool r.bt]
def evC (e:Ev):List Value:=[.int .i64 e.id,.int .i64 e.i,.int .i64 e.o,.string (strB e.rg),.int .u8 e.kd,.string (strB e.sp),e.v]
def cmC (c:Cm):List Value:=[.int .i64 c.id,.int .i64 c.ev,.int .i64 c.fr,.int .i64 c.to,.string (strB c.au),.string (strB c.tx),.bool c.dn,.bool c.lo]
def rgV (r:Rg):Value:=.agg #[.string (strB r.nm),.int .i64 r.t,.int .i64 r.h,.int .i64 r.l,.int .i64 r.w,.int .u8 r.al,.bool r.bt]
def evV (e:Ev):Value:=.agg #[.int .i64 e.id,.int .i64 e.i,.int .i64 e.o,.string (strB e.rg),.int .u8 e.kd,.string (strB e.sp),e.v]
def cmV (c:Cm):Value:=.agg #[.int .i64 c.id,.int .i64 c.ev,.int .i64 c.fr,.int .i64 c.to,.string (strB c.au),.string (strB c.tx),.bool c.dn,.bool c.lo]
def dcV (d:Dc):Value:=.agg #[.string (strB d.ti),.string (strB d.la),.int .u8 d.rt,.bool d.dr,.int .i64 d.last,d.rv,d.ev,d.cv]
theorem evV_eq (e:Ev):evV e=.agg (evC e).toArray:=rfl
theorem rgC_len (r:Rg):(rgC r).length=7:=rfl
theorem evC_len (e:Ev):(evC e).length=7:=rfl
theorem cmC_len (c:Cm):(cmC c).length=8:=rfl
abbrev RgR (H:GHeap) (v:Value) (l:List Rg):Prop:=GArg1 H 7 v l.length (l.flatMap rgC)
abbrev CmR (H:GHeap) (v:Value) (l:List Cm):Prop:=GArg1 H 8 v l.length (l.flatMap cmC)
structure EvR (H:GHeap) (v:Value) (l:List Ev):Prop where
 rd:GArg1 H 7 v l.length (l.flatMap evC)
 rows:∀ e ∈ l,TR H e.v e.L
structure DcR (H:GHeap) (d:Dc):Prop where
 rg:RgR H d.rv d.R
 ev:EvR H d.ev d.E
 cm:CmR H d.cv d.C
section
variable {H H':GHeap} {v:Value}
theorem RgR.rowN {l:List Rg} (h:RgR H v l) {k:Nat} (hk:k < l.length):H.rdn (blk v) (ofs v+k * 7) 7=some (rgV l[k]!):=GRd.rowN (f:=rgC) h.rd rgC_len (by decide) hk
theorem CmR.rowN {l:List Cm} (h:CmR H v l) {k:Nat} (hk:k < l.length):H.rdn (blk v) (ofs v+k * 8) 8=some (cmV l[k]!):=GRd.rowN (f:=cmC) h.rd cmC_len (by decide) hk
theorem EvR.rowN {l:List Ev} (h:EvR H v l) {k:Nat} (hk:k < l.length):H.rdn (blk v) (ofs v+k * 7) 7=some (evV l[k]!):=GRd.rowN (f:=evC) h.rd.rd evC_len (by decide) hk
theorem RgR.row {l:List Rg} (h:RgR H v l) {k c:Nat} (hk:k < l.length) (hc:c < 7):H.rd (blk v) (ofs v+k * 7+c)=(rgC l[k]!)[c]?:=GRd.row (f:=rgC) h.rd rgC_len hk hc
theorem CmR.row {l:List Cm} (h:CmR H v l) {k c:Nat} (hk:k < l.length) (hc:c < 8):H.rd (blk v) (ofs v+k * 8+c)=(cmC l[k]!)[c]?:=GRd.row (f:=cmC) h.rd cmC_len hk hc
theorem EvR.row {l:List Ev} (h:EvR H v l) {k c:Nat} (hk:k < l.length) (hc:c < 7):H.rd (blk v) (ofs v+k * 7+c)=(evC l[k]!)[c]?:=GRd.row (f:=evC) h.rd.rd evC_len hk hc
theorem EvR.at_ {l:List Ev} (h:EvR H v l) {k:Nat} (hk:k < l.length):TR H l[k]!.v l[k]!.L:=h.rows _ (by rw [getElem!_pos l k hk];exact List.getElem_mem _)
theorem EvR.later {l:List Ev} (h:EvR H v l) (hw:H.wf) (hs:Same H H'):EvR H' v l:=⟨GArg1.same h.rd hw hs,fun e he=>(h.rows e he).later hw hs⟩
theorem DcR.later {d:Dc} (h:DcR H d) (hw:H.wf) (hs:Same H H'):DcR H' d:=⟨GArg1.same h.rg hw hs,h.ev.later hw hs,GArg1.same h.cm hw hs⟩
theorem GArg1.flat {s n:Nat} {xs:List Value} (h:GArg1 H s v n xs):flatV v=true:=by
 obtain ⟨a,gc,e,_⟩:=h.sl
 rw [e];exact flatV_sl
end
def smR (l:List SR):Prop:=l.length≤1048576∧∀ x ∈ l,x.t.length≤1048576∧x.y.length≤1048576
def smE (e:Ev):Prop:=e.rg.length≤1048576∧e.sp.length≤1048576∧(0≤e.kd∧e.kd≤255)∧e.L.length≤1048576∧∀ x ∈ e.L,smR x.2
def smG (r:Rg):Prop:=r.nm.length≤1048576∧0≤r.al∧r.al≤255
def smC (c:Cm):Prop:=c.au.length≤1048576∧c.tx.length≤1048576
structure SmD (d:Dc):Prop where
 ti:d.ti.length≤1048576
 la:d.la.length≤1048576
 rt:0≤d.rt∧d.rt≤255
 R:d.R.length≤1048576∧∀ r ∈ d.R,smG r
 E:d.E.length≤1048576∧∀ e ∈ d.E,smE e
 C:d.C.length≤1048576∧∀ c ∈ d.C,smC c
theorem RdAQ.slP_ {Q:Nat→Prop} {H:GHeap} {α:Type} {f:α→List Value} {p:α→Prop} {s:Shp} {gv:Value} (h:RdAQ Q H (.sl s) gv) (hf:∀ r,RdSQ Q H s r→∃ x,r=f x∧p x):
 ∃ l:List α,GArg1 H s.size gv l.length (l.flatMap f)∧Q l.length∧∀ x ∈ l,p x:=by
 simp only [RdAQ,RdSQ] at h
 obtain ⟨v,rows,e,k1,k2,k3⟩:=h
 simp at e
 subst e
 have key:∀ rows:List (List Value),(∀ r ∈ rows,RdSQ Q H s r)→∃ l:List α,rows=l.map f∧∀ x ∈ l,p x:=by
  intro rows
  induction rows with
  |nil=>intro _;exact ⟨[],rfl,by simp⟩
  |cons r rs ih=>
   intro h
   obtain ⟨l,rfl,hl⟩:=ih fun r hr=>h r (by simp [hr])
   obtain ⟨x,rfl,hx⟩:=hf r (h r (by simp))
   exact ⟨x :: l,rfl,by
    intro y hy
    rcases List.mem_cons.1 hy with rfl|hy
    ·exact hx
    ·exact hl y hy⟩
 obtain ⟨l,rfl,hl⟩:=key rows fun r hr=>(k3 r hr).2
 rw [List.length_map] at k1 k2
 exact ⟨l,by rw [List.flatMap_def];exact k1,k2.2.2,hl⟩
theorem sl_of {Q:Nat→Prop} {H:GHeap} {s:Shp} {r:List Value} (h:RdSQ Q H (.sl s) r):∃ v,r=[v]∧RdAQ Q H (.sl s) v:=by
 simp only [RdSQ] at h
 obtain ⟨v,rows,rfl,h2⟩:=h
 exact ⟨v,rfl,by simp only [RdAQ,RdSQ];exact ⟨v,rows,rfl,h2⟩⟩
def Qs (m:Nat):Prop:=m≤1048576
def rgShp:Shp:=.st [.str,.int .i64,.int .i64,.int .i64,.int .i64,.int .u8,.bool]
def evShp:Shp:=.st [.int .i64,.st [.int .i64,.int .i64],.str,.int .u8,.str,.sl (.st [.sl runShp])]
def cmShp:Shp:=.st [.int .i64,.int .i64,.int .i64,.int .i64,.str,.str,.bool,.bool]
def dcShp:Shp:=.st [.str,.str,.int .u8,.bool,.int .i64,.sl rgShp,.sl evShp,.sl cmShp]
theorem regs_of {H:GHeap} {v:Value} (h:RdAQ Qs H (.sl rgShp) v):∃ l:List Rg,RgR H v l∧l.length≤1048576∧∀ r ∈ l,smG r:=by
 obtain ⟨l,k1,k2,k3⟩:=h.slP_ (f:=rgC) (p:=smG) fun r hr=>by
  simp only [rgShp,RdSQ,RdSsQ] at hr
  obtain ⟨_,_,rfl,⟨s,rfl,_,q1⟩,_,_,rfl,⟨t,rfl,_⟩,_,_,rfl,⟨hh,rfl,_⟩,_,_,rfl,⟨l,rfl,_⟩,_,_,rfl,⟨w,rfl,_⟩,_,_,rfl,⟨al,rfl,q2⟩,_,_,rfl,⟨b,rfl⟩,rfl⟩:=hr
  exact ⟨⟨s.data.toList,t,hh,l,w,al,b⟩,by simp [rgC,strB_of],by simpa [Qs] using q1,wf_u8 q2⟩
 exact ⟨l,k1,k2,k3⟩
theorem cms_of {H:GHeap} {v:Value} (h:RdAQ Qs H (.sl cmShp) v):∃ l:List Cm,CmR H v l∧l.length≤1048576∧∀ r ∈ l,smC r:=by
 obtain ⟨l,k1,k2,k3⟩:=h.slP_ (f:=cmC) (p:=smC) fun r hr=>by
  simp only [cmShp,RdSQ,RdSsQ] at hr
  obtain ⟨_,_,rfl,⟨a,rfl,_⟩,_,_,rfl,⟨b,rfl,_⟩,_,_,rfl,⟨c,rfl,_⟩,_,_,rfl,⟨d,rfl,_⟩,_,_,rfl,⟨s,rfl,_,q1⟩,_,_,rfl,⟨u,rfl,_,q2⟩,_,_,rfl,⟨x,rfl⟩,_,_,rfl,⟨y,rfl⟩,rfl⟩:=hr
  exact ⟨⟨a,b,c,d,s.data.toList,u.data.toList,x,y⟩,by simp [cmC,strB_of],by simpa [Qs] using q1,by simpa [Qs] using q2⟩
 exact ⟨l,k1,k2,k3⟩
end Go.Gh
end
section
namespace Go.Gh
set_option linter.unusedSimpArgs false
set_option linter.unusedVariables false
set_option maxHeartbeats 4000000
open Go.RowKit
set_option maxRecDepth 4000
def nmB (r:Int):List UInt8:=if r=1 then [50,51,46,57,55,54] else if r=2 then [50,52] else if r=3 then [50,53] else if r=4 then [50,57,46,57,55] else if r=5 then [51,48] else if r=6 then [53,48] else if r=7 then [53,57,46,57,52] else []
def nmn (r:Int):Int:=if r=1 then 24 else if r=2 then 24 else if r=3 then 25 else if r=4 then 30 else if r=5 then 30 else if r=6 then 50 else if r=7 then 60 else 0
def ofV (r:Int):Value:=.agg #[.string (strB (nmB r)),.int .i64 (tk r),.int .i64 (nmn r),.bool (cdr r)]
noncomputable def chk20 (r:Nat):Bool:=match gbody (gcall G 60 3) 60 g134 [.int .u8 (r:Nat)] ⟨.nil,0,0⟩ with
 |some (.agg cs,_)=>match cs.toList with
  |[.string s,.int .i64 a,.int .i64 b,.bool c]=>s.data.toList == nmB r && a == tk r && b == nmn r && c == cdr r
  |_=>false
 |_=>false
set_option maxRecDepth 100000 in
theorem all20:(List.range 256).all chk20=true:=by kernel_rfl
theorem of_ok {r:Int} (hr:0≤r∧r≤255) (H:GHeap):gev G 134 [.int .u8 r] H=some (ofV r,H):=by
 obtain ⟨n,rfl⟩:∃ n:Nat,r=n:=⟨r.toNat,by omega⟩
 have h:=List.all_eq_true.1 all20 n (List.mem_range.2 (by omega))
 refine gev_run (m:=60) (d:=3) (g:=g134) rfl rfl (by simp [ofV,litVal,litOk,litFlat]) ?_ H
 unfold chk20 at h
 split at h
 ·rename_i cs H' e
  rw [e]
  simp only [Option.map_some,Option.some.injEq,ofV]
  split at h
  ·rename_i s a b c e2
   simp only [Bool.and_eq_true,beq_iff_eq] at h
   obtain ⟨⟨⟨h1,h2⟩,h3⟩,h4⟩:=h
   have:cs=#[.string s,.int .i64 a,.int .i64 b,.bool c]:=by apply Array.ext';exact e2
   rw [this,h2,h3,h4,← h1,strB_of]
  ·cases h
 ·cases h
theorem of_1 (r:Int):gpart none 1 (ofV r)=some (.int .i64 (tk r)):=rfl
theorem of_3 (r:Int):gpart none 3 (ofV r)=some (.bool (cdr r)):=rfl
section
variable {r:Int} (hr:0≤r∧r≤255)
include hr
theorem canDrop_ok (H:GHeap):gev G 133 [.int .u8 r] H=some (.bool (cdr r),H):=by
 refine gev_GWP (f:=133) rfl rfl rfl (fun Post hPost=>?_) H
 simp only [frameOf,Nat.reduceAdd]
 repeat' (first|refine zz1 @g133.eq_1 ?_|(refine zh (fun hc=>?_) (fun hc=>?_)<;>try simp only [yL] at hc))
 refine zc0 (one_of (of_ok hr _)) fun r1 H1 hq=>?_
 obtain ⟨rfl,rfl⟩:=hq
 repeat' (first|refine zz2 @g133.eq_1 @of_3 ?_|(refine zh (fun hc=>?_) (fun hc=>?_)<;>try simp only [yL] at hc))
 exact hPost _
theorem tvalid_ok (H:GHeap):gev G 106 [.int .u8 r] H=some (.bool (decide (0 < tk r)),H):=by
 refine gev_GWP (f:=106) rfl rfl rfl (fun Post hPost=>?_) H
 simp only [frameOf,Nat.reduceAdd]
 repeat' (first|refine zz1 @g106.eq_1 ?_|(refine zh (fun hc=>?_) (fun hc=>?_)<;>try simp only [yL] at hc))
 refine zc0 (one_of (of_ok hr _)) fun r1 H1 hq=>?_
 obtain ⟨rfl,rfl⟩:=hq
 repeat' (first|refine zz2 @g106.eq_1 @of_1 ?_|(refine zh (fun hc=>?_) (fun hc=>?_)<;>try simp only [yL] at hc))
 exact hPost _
end
theorem dv64 {e:Option EqK} {a b:Int} (h0:0≤a) (h1:a≤9223372036854775807) (hb:0 < b):gbin .quo e (.int .i64 a) (.int .i64 b)=some (.int .i64 (a / b)):=by
 have h2:=Int.ediv_le_self b h0
 have h3:=Int.ediv_nonneg h0 (Int.le_of_lt hb)
 rw [gb_quo (by omega),Int.tdiv_eq_ediv_of_nonneg h0,wr_i64 (by omega)]
def pr (p:Int × Int):Value:=.tuple #[.int .i64 p.1,.int .i64 p.2]
def s2 (i o:Int):Value:=.agg #[.int .i64 i,.int .i64 o]
def s2C (i o:Int):List Value:=[.int .i64 i,.int .i64 o]
theorem s2_eq (i o:Int):Value.agg #[.int .i64 i,.int .i64 o]=s2 i o:=rfl
theorem s2_lit (i o:Int):litOk (s2 i o)=true:=by simp [s2,litOk,litFlat]
theorem s2_cells (i o:Int):(s2 i o).cells.toList=s2C i o:=rfl
theorem s2_cflat (i o:Int):(s2 i o).cells.all flatV=true:=by
 rw [← Array.all_toList];simp [s2_cells,s2C,flatV]
theorem s2C_0 (i o:Int):(s2C i o)[0]? =some (.int .i64 i):=rfl
theorem s2C_1 (i o:Int):(s2C i o)[1]? =some (.int .i64 o):=rfl
theorem gsetn_s2 {cs:List Value} {i o:Int} (h:cs.length=2):gsetn cs 0 2 (s2 i o)=some (s2C i o):=gsetn_all h rfl (by simp [flatV])
theorem rdn_s2p {H:GHeap} {j:Nat} {i o:Int} {u:Nat} {b:Bool}:(H.put j (.cells (s2C i o) u b)).rdn j 0 2=some (s2 i o):=rdn_put_all rfl
theorem rdn_s2 {H:GHeap} {j:Nat} {i o:Int} {u:Nat} {b:Bool} (h:H.len=j):(H.add (some (.cells (s2C i o) u b))).rdn j 0 2=some (s2 i o):=rdn_add_all h rfl
theorem gp_s20 (i o:Int):gpart none 0 (s2 i o)=some (.int .i64 i):=rfl
theorem gp_s21 (i o:Int):gpart none 1 (s2 i o)=some (.int .i64 o):=rfl
theorem RS:type_of% (And.intro (And.intro (And.intro @s2_eq @s2_cells) (And.intro @s2_cflat @s2C_0)) (And.intro (And.intro @s2C_1 @gsetn_s2) (And.intro @rdn_s2p (And.intro @rdn_s2 (And.intro @gp_s20 @gp_s21))))):=⟨⟨⟨@s2_eq,@s2_cells⟩,⟨@s2_cflat,@s2C_0⟩⟩,⟨⟨@s2C_1,@gsetn_s2⟩,⟨@rdn_s2p,⟨@rdn_s2,⟨@gp_s20,@gp_s21⟩⟩⟩⟩⟩
end Go.Gh
end
section
namespace Go.Gh
set_option linter.unusedSimpArgs false
set_option linter.unusedVariables false
set_option maxHeartbeats 4000000
open Go.RowKit
set_option maxRecDepth 4000
theorem strB_at {l:List UInt8} {k:IntKind} {j:Nat} (h:j < l.length):gix none (.string (strB l)) (.int k j)=some (.int .u8 (l[j]!.toNat:Nat)):=by
 have hs:=strB_size l
 simp only [gix,Int.toNat_natCast]
 rw [if_pos (by omega)]
 have h4:(strB l)[j]? =some l[j]!:=by
  rw [getElem?_pos (strB l) j (by omega),getElem!_pos l j h]
  simp [strB,ByteArray.getElem_eq_getElem_data]
 rw [h4];rfl
theorem strB_at0 {l:List UInt8} {k:IntKind} (h:0 < l.length):gix none (.string (strB l)) (.int k 0)=some (.int .u8 (l[0]!.toNat:Nat)):=strB_at (j:=0) h
theorem name_ok {l:List UInt8} (hl:l.length≤1048576) (H:GHeap):gev G 64 [.string (strB l)] H=some (.bool (nameF l),H):=by
 refine gev_GWP (f:=64) rfl rfl rfl (fun Post hPost=>?_) H
 have hls:=strB_size l
 have hw:=root_wf
 simp only [frameOf,Nat.reduceAdd]
 have hno:∀ {H'},nameF l=false→Post (.bool false) H':=fun h=>h ▸ hPost _
 by_cases hlen:1≤l.length∧l.length≤16
 case neg=>
  have:nameF l=false:=by unfold nameF;rw [decide_eq_false hlen,Bool.false_and,Bool.false_and]
  repeat' (first|refine zz2 @g64.eq_1 @hls ?_|(refine zh (fun hc=>?_) (fun hc=>?_)<;>try simp only [yL] at hc))
  all_goals first|exact hno this|(exfalso;omega)
 have e0:=fun k=>strB_at0 (k:=k) (l:=l) (by omega)
 by_cases hcap:capB l[0]! =true
 case neg=>
  have:nameF l=false:=by unfold nameF;rw [Bool.eq_false_iff.2 hcap,Bool.and_false,Bool.false_and]
  have hcap':¬ (65≤l[0]!.toNat∧l[0]!.toNat≤90):=by simpa [capB] using hcap
  repeat' (first|refine zz3 @g64.eq_1 @hls @e0 ?_|(refine zh (fun hc=>?_) (fun hc=>?_)<;>try simp only [yL] at hc))
  all_goals first|exact hno this|(exfalso;omega)
 have hcap':65≤l[0]!.toNat∧l[0]!.toNat≤90:=by simpa [capB] using hcap
 have hF:nameF l=l.all namB:=by unfold nameF;rw [decide_eq_true hlen,hcap,Bool.true_and,Bool.true_and]
 rw [hF] at hPost hno
 have d1:decide ((l.length:Int) < 1)=false:=decide_eq_false (by omega)
 have d2:decide ((16:Int) < l.length)=false:=decide_eq_false (by omega)
 have d3:decide ((l[0]!.toNat:Int) < 65)=false:=decide_eq_false (by omega)
 have d4:decide ((90:Int) < l[0]!.toNat)=false:=decide_eq_false (by omega)
 repeat' (first|refine zz7 @g64.eq_1 @hls @e0 @d1 @d2 @d3 @d4 ?_|(refine zh (fun hc=>?_) (fun hc=>?_)<;>try simp only [yL] at hc))
 clear hF d1 d2 d3 d4 e0 hcap hcap'
 refine GW_loop (fun k fr H1=>∃ j:Nat,k=l.length - j∧j≤l.length∧fr.get 0=some (.string (strB l))∧fr.get 24=some (.int .i64 l.length)∧fr.get 25=some (.int .i64 j)∧(l.take j).all namB=true) ?_ l.length ?_
 case refine_2=>
  refine ⟨0,by omega,by omega,?_⟩
  simp only [↓yG,Nat.reduceEqDiff,↓reduceIte,Int.natCast_add,Int.cast_ofNat_Int,Int.natCast_zero,true_and,and_true,Option.some.injEq,Value.int.injEq]
  simp
 rintro k fr H1 ⟨j,rfl,hj,f0,f24,f25,hall⟩ J hJ
 by_cases hj1:j < l.length
 ·have e1:=fun k=>strB_at (k:=k) hj1
  have hmem:l[j]! ∈ l:=by rw [getElem!_pos l j hj1];exact List.getElem_mem _
  have hnx:namB l[j]! =true→(l.take (j+1)).all namB=true:=fun h=>by
   rw [List.take_succ_eq_append_getElem hj1,List.all_append,hall,← getElem!_pos l j hj1];simp only [List.all_cons,List.all_nil,h,Bool.and_true]
  have hbd:namB l[j]! =false→l.all namB=false:=fun h=>by
   rw [← Bool.not_eq_true]
   intro hh
   have:=List.all_eq_true.1 hh _ hmem
   rw [h] at this;cases this
  have hN:namB l[j]! =decide ((65≤l[j]!.toNat∧l[j]!.toNat≤90)∨(48≤l[j]!.toNat∧l[j]!.toNat≤57)∨l[j]!.toNat=95∨l[j]!.toNat=45):=rfl
  rw [hN,decide_eq_true_eq] at hnx
  rw [hN,decide_eq_false_iff_not] at hbd
  clear hN hmem
  generalize l[j]! =b at *
  have hb:=b.toNat_lt
  repeat' (first|(exfalso;omega)|refine zz5 @g64.eq_1 @f0 @f24 @f25 @e1 ?_|(refine zh (fun hc=>?_) (fun hc=>?_)<;>try simp only [yL] at hc))
  all_goals first
   |exact hno (hbd (by omega))
   |(refine hJ _ _ ⟨l.length - (j+1),by omega,j+1,rfl,by omega,?_⟩
     simp only [↓yG,Nat.reduceEqDiff,↓reduceIte,Int.natCast_add,Int.cast_ofNat_Int,Int.natCast_zero,true_and,and_true,Option.some.injEq,Value.int.injEq,f0,f24]
     exact hnx (by omega))
 ·obtain rfl:j=l.length:=by omega
  rw [List.take_length] at hall
  rw [hall] at hPost
  repeat' (first|(exfalso;omega)|refine zz4 @g64.eq_1 @f0 @f24 @f25 ?_|(refine zh (fun hc=>?_) (fun hc=>?_)<;>try simp only [yL] at hc))
  exact hPost _
theorem from_ok {n a b:Int} (H:GHeap):gev G 165 [.int .i64 n,.int .i64 a,.int .i64 b] H=some (.bool (decide (a≤n∧n≤b)),H):=by
 refine gev_GWP (f:=165) rfl rfl rfl (fun Post hPost=>?_) H
 simp only [frameOf,Nat.reduceAdd]
 repeat' (first|refine zz1 @g165.eq_1 ?_|(refine zh (fun hc=>?_) (fun hc=>?_)<;>try simp only [yL] at hc))
 case refine_1=>
  have:decide (a≤n∧n≤b)=decide (n≤b):=by simp [hc]
  rw [this] at hPost
  exact hPost _
 have:decide (a≤n∧n≤b)=false:=decide_eq_false (by omega)
 rw [this] at hPost
 exact hPost _
theorem rgV_lit (r:Rg):litOk (rgV r)=true:=by simp [rgV,litOk,litFlat]
theorem rg_cells (r:Rg):(rgV r).cells.toList=rgC r:=rfl
theorem rgC_flat (r:Rg):(rgC r).all flatV=true:=by simp [rgC,flatV]
theorem rg_cflat (r:Rg):(rgV r).cells.all flatV=true:=by rw [← Array.all_toList];exact rgC_flat r
theorem rgC_0 (r:Rg):(rgC r)[0]? =some (.string (strB r.nm)):=rfl
theorem rgC_1 (r:Rg):(rgC r)[1]? =some (.int .i64 r.t):=rfl
theorem rgC_2 (r:Rg):(rgC r)[2]? =some (.int .i64 r.h):=rfl
theorem rgC_3 (r:Rg):(rgC r)[3]? =some (.int .i64 r.l):=rfl
theorem rgC_4 (r:Rg):(rgC r)[4]? =some (.int .i64 r.w):=rfl
theorem rgC_5 (r:Rg):(rgC r)[5]? =some (.int .u8 r.al):=rfl
theorem rgC_6 (r:Rg):(rgC r)[6]? =some (.bool r.bt):=rfl
theorem gsetn_rg {cs:List Value} {r:Rg} (h:cs.length=7):gsetn cs 0 7 (rgV r)=some (rgC r):=gsetn_all h rfl (by simp [flatV])
theorem rdn_rg {H:GHeap} {j:Nat} {r:Rg} {u:Nat} {b:Bool} (h:H.len=j):(H.add (some (.cells (rgC r) u b))).rdn j 0 7=some (rgV r):=rdn_add_all h rfl
theorem rdn_rgp {H:GHeap} {j:Nat} {r:Rg} {u:Nat} {b:Bool}:(H.put j (.cells (rgC r) u b)).rdn j 0 7=some (rgV r):=rdn_put_all rfl
theorem geq_rg (n:Nat) (a b:Rg):geqIn (n+1) (.parts [(0,none,.str),(1,none,.int),(2,none,.int),(3,none,.int),(4,none,.int),(5,none,.int),(6,none,.bool)]) (rgV a) (rgV b)=some (decide (a=b)):=by
 have h0:∀ x y:Rg,geqIn (n+1) (.parts [(0,none,.str),(1,none,.int),(2,none,.int),(3,none,.int),(4,none,.int),(5,none,.int),(6,none,.bool)]) (rgV x) (rgV y)=match geqIn n .str (.string (strB x.nm)) (.string (strB y.nm)) with
  |some true=>(match geqIn n .int (.int .i64 x.t) (.int .i64 y.t) with
   |some true=>(match geqIn n .int (.int .i64 x.h) (.int .i64 y.h) with
    |some true=>(match geqIn n .int (.int .i64 x.l) (.int .i64 y.l) with
     |some true=>(match geqIn n .int (.int .i64 x.w) (.int .i64 y.w) with
      |some true=>(match geqIn n .int (.int .u8 x.al) (.int .u8 y.al) with
       |some true=>(match geqIn n .bool (.bool x.bt) (.bool y.bt) with
        |some true=>some true
        |z=>z)
       |z=>z)
      |z=>z)
     |z=>z)
    |z=>z)
   |z=>z)
  |z=>z:=fun x y=>rfl
 rw [h0]
 obtain ⟨a1,a2,a3,a4,a5,a6,a7⟩:=a
 obtain ⟨b1,b2,b3,b4,b5,b6,b7⟩:=b
 simp only [geq_str,geq_int,geq_bool,strB_beq,Rg.mk.injEq]
 by_cases h1:a1=b1<;>by_cases h2:a2=b2<;>by_cases h3:a3=b3<;>by_cases h4:a4=b4<;>by_cases h5:a5=b5<;>by_cases h6:a6=b6<;>by_cases h7:a7=b7<;>simp [h1,h2,h3,h4,h5,h6,h7]
theorem gb_eqG {a b:Rg}:gbin .eql (some (.parts [(0,none,.str),(1,none,.int),(2,none,.int),(3,none,.int),(4,none,.int),(5,none,.int),(6,none,.bool)])) (rgV a) (rgV b)=some (.bool (decide (a=b))):=by
 have:=geq_rg 11 a b
 simp only [gbin,rgV,geq] at this ⊢
 rw [this];rfl
theorem RG:type_of% (And.intro (And.intro (And.intro @rg_cells @rg_cflat) (And.intro @rgC_0 (And.intro @rgC_1 @rgC_2))) (And.intro (And.intro @rgC_3 (And.intro @rgC_4 @rgC_5)) (And.intro (And.intro @rgC_6 @gsetn_rg) (And.intro @rdn_rg (And.intro @rdn_rgp @gb_eqG))))):=⟨⟨⟨@rg_cells,@rg_cflat⟩,⟨@rgC_0,⟨@rgC_1,@rgC_2⟩⟩⟩,⟨⟨@rgC_3,⟨@rgC_4,@rgC_5⟩⟩,⟨⟨@rgC_6,@gsetn_rg⟩,⟨@rdn_rg,⟨@rdn_rgp,@gb_eqG⟩⟩⟩⟩⟩
theorem dfl_run:(gbody (gcall G 20 2) 20 g132 [] ⟨.nil,0,0⟩).map (·.1)=some (rgV dfl):=by kernel_rfl
theorem default_ok (H:GHeap):gev G 132 [] H=some (rgV dfl,H):=gev_run (m:=20) (d:=2) (g:=g132) (v:=rgV dfl) rfl rfl (rgV_lit dfl) dfl_run H
def rgE (r:Rg):Int:=if nameF r.nm=false then 5 else if (0≤r.t∧r.t≤14)∧(1≤r.h∧r.h≤15 - r.t)∧(0≤r.l∧r.l≤31)∧(1≤r.w∧r.w≤32 - r.l) then (if 1≤r.al∧r.al≤3 then 0 else 3) else 2
theorem rgE_ok (r:Rg):rgE r=0↔rgOk r:=by
 unfold rgE rgOk
 cases nameF r.nm with
 |false=>simp
 |true=>
  simp only [Bool.true_eq_false,if_false,true_and]
  split
  ·split
   ·rename_i h1 h2;exact ⟨fun _=>⟨h1.1,h1.2.1,h1.2.2.1,h1.2.2.2,h2⟩,fun _=>rfl⟩
   ·rename_i h1 h2;exact ⟨fun h=>(by omega),fun h=>absurd h.2.2.2.2 h2⟩
  ·rename_i h1;exact ⟨fun h=>(by omega),fun h=>absurd ⟨h.1,h.2.1,h.2.2.1,h.2.2.2.1⟩ h1⟩
theorem rgCheck_ok {r:Rg} (hr:smG r) (H:GHeap):gev G 117 [rgV r] H=some (.int .i64 (rgE r),H):=by
 refine gev_GWP (f:=117) rfl (by simp only [List.all_cons,List.all_nil,rgV_lit,Bool.and_true]) rfl (fun Post hPost=>?_) H
 have hw:=root_wf
 have hlim:=hw.1
 simp only [frameOf,Nat.reduceAdd]
 unfold rgE at hPost
 repeat' (first|refine zz2 @g117.eq_1 @RG ?_|(refine zh (fun hc=>?_) (fun hc=>?_)<;>try simp only [yL] at hc))
 refine zc0 (one_of (name_ok hr.1 _)) fun r1 H1 hq=>?_
 obtain ⟨rfl,rfl⟩:=hq
 cases hn:nameF r.nm with
 |false=>
  rw [hn] at hPost
  repeat' (first|refine zz2 @g117.eq_1 @RG ?_|(refine zh (fun hc=>?_) (fun hc=>?_)<;>try simp only [yL] at hc))
  exact hPost _
 |true=>
 rw [hn] at hPost
 simp only [Bool.true_eq_false,if_false] at hPost
 have hbad:∀ {H'},¬ ((0≤r.t∧r.t≤14)∧(1≤r.h∧r.h≤15 - r.t)∧(0≤r.l∧r.l≤31)∧(1≤r.w∧r.w≤32 - r.l))→Post (.int .i64 2) H':=fun h=>by
  rw [if_neg h] at hPost;exact hPost _
 repeat' (first|refine zz2 @g117.eq_1 @RG ?_|(refine zh (fun hc=>?_) (fun hc=>?_)<;>try simp only [yL] at hc))
 refine zc1 @RG (one_of (from_ok _)) fun r1 H1 hq=>?_
 obtain ⟨rfl,rfl⟩:=hq
 by_cases h1:0≤r.t∧r.t≤14
 case neg=>
  have d1:decide (0≤r.t∧r.t≤14)=false:=decide_eq_false h1
  repeat' (first|refine zz3 @g117.eq_1 @RG @d1 ?_|(refine zh (fun hc=>?_) (fun hc=>?_)<;>try simp only [yL] at hc))
  exact hbad fun h=>h1 h.1
 have d1:decide (0≤r.t∧r.t≤14)=true:=decide_eq_true h1
 repeat' (first|refine zz3 @g117.eq_1 @RG @d1 ?_|(refine zh (fun hc=>?_) (fun hc=>?_)<;>try simp only [yL] at hc))
 refine zc1 @RG (one_of (from_ok _)) fun r1 H1 hq=>?_
 obtain ⟨rfl,rfl⟩:=hq
 by_cases h2:1≤r.h∧r.h≤15 - r.t
 case neg=>
  have d2:decide (1≤r.h∧r.h≤15 - r.t)=false:=decide_eq_false h2
  repeat' (first|refine zz3 @g117.eq_1 @RG @d2 ?_|(refine zh (fun hc=>?_) (fun hc=>?_)<;>try simp only [yL] at hc))
  exact hbad fun h=>h2 h.2.1
 have d2:decide (1≤r.h∧r.h≤15 - r.t)=true:=decide_eq_true h2
 repeat' (first|refine zz3 @g117.eq_1 @RG @d2 ?_|(refine zh (fun hc=>?_) (fun hc=>?_)<;>try simp only [yL] at hc))
 refine zc1 @RG (one_of (from_ok _)) fun r1 H1 hq=>?_
 obtain ⟨rfl,rfl⟩:=hq
 by_cases h3:0≤r.l∧r.l≤31
 case neg=>
  have d3:decide (0≤r.l∧r.l≤31)=false:=decide_eq_false h3
  repeat' (first|refine zz3 @g117.eq_1 @RG @d3 ?_|(refine zh (fun hc=>?_) (fun hc=>?_)<;>try simp only [yL] at hc))
  exact hbad fun h=>h3 h.2.2.1
 have d3:decide (0≤r.l∧r.l≤31)=true:=decide_eq_true h3
 repeat' (first|refine zz3 @g117.eq_1 @RG @d3 ?_|(refine zh (fun hc=>?_) (fun hc=>?_)<;>try simp only [yL] at hc))
 refine zc1 @RG (one_of (from_ok _)) fun r1 H1 hq=>?_
 obtain ⟨rfl,rfl⟩:=hq
 by_cases h4:1≤r.w∧r.w≤32 - r.l
 case neg=>
  have d4:decide (1≤r.w∧r.w≤32 - r.l)=false:=decide_eq_false h4
  repeat' (first|refine zz3 @g117.eq_1 @RG @d4 ?_|(refine zh (fun hc=>?_) (fun hc=>?_)<;>try simp only [yL] at hc))
  exact hbad fun h=>h4 h.2.2.2
 have d4:decide (1≤r.w∧r.w≤32 - r.l)=true:=decide_eq_true h4
 rw [if_pos ⟨h1,h2,h3,h4⟩] at hPost
 clear hbad
 repeat' (first|refine zz3 @g117.eq_1 @RG @d4 ?_|(refine zh (fun hc=>?_) (fun hc=>?_)<;>try simp only [yL] at hc))
 all_goals first
  |(rw [if_neg (by omega)] at hPost;exact hPost _)
  |(rw [if_pos (by omega)] at hPost;exact hPost _)
noncomputable def usB (r:Rg):Bool:=decide (r=dfl) || decide (rgE r=0)
theorem usB_ok (r:Rg):usB r=true↔usabl r:=by
 unfold usB usabl
 rw [Bool.or_eq_true,decide_eq_true_eq,decide_eq_true_eq,rgE_ok]
theorem usable_ok {r:Rg} (hr:smG r) (H:GHeap):gev G 164 [rgV r] H=some (.bool (usB r),H):=by
 refine gev_GWP (f:=164) rfl (by simp only [List.all_cons,List.all_nil,rgV_lit,Bool.and_true]) rfl (fun Post hPost=>?_) H
 have hw:=root_wf
 have hlim:=hw.1
 simp only [frameOf,Nat.reduceAdd]
 unfold usB at hPost
 repeat' (first|refine zz2 @g164.eq_1 @RG ?_|(refine zh (fun hc=>?_) (fun hc=>?_)<;>try simp only [yL] at hc))
 refine zm1 @RG (one_of (default_ok _)) fun r1 H1 hq=>?_
 obtain ⟨rfl,rfl⟩:=hq
 rw [updown]
 by_cases h1:r=dfl
 ·rw [decide_eq_true h1,Bool.true_or] at hPost
  have d1:decide (r=dfl)=true:=decide_eq_true h1
  repeat' (first|refine zz3 @g164.eq_1 @RG @d1 ?_|(refine zh (fun hc=>?_) (fun hc=>?_)<;>try simp only [yL] at hc))
  exact hPost _
 rw [decide_eq_false h1,Bool.false_or] at hPost
 have d1:decide (r=dfl)=false:=decide_eq_false h1
 repeat' (first|refine zz3 @g164.eq_1 @RG @d1 ?_|(refine zh (fun hc=>?_) (fun hc=>?_)<;>try simp only [yL] at hc))
 refine zm1 @RG (one_of (rgCheck_ok hr _)) fun r1 H1 hq=>?_
 obtain ⟨rfl,rfl⟩:=hq
 rw [updown]
 repeat' (first|refine zz2 @g164.eq_1 @RG ?_|(refine zh (fun hc=>?_) (fun hc=>?_)<;>try simp only [yL] at hc))
 exact hPost _
end Go.Gh
end
