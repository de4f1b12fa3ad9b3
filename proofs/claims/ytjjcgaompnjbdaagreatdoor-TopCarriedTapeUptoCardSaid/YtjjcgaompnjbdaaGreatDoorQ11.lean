/-
  Parts of the proof: walks of the ghost functions and the laws of what they compute. No condition.
-/
import Derived.Test.YtjjcgaompnjbdaaGreatDoorQ10
import Derived.Test.YtjjcgaompnjbdaaGreatDoorQ6
section
namespace Go.Gh
set_option linter.unusedSimpArgs false
set_option linter.unusedVariables false
set_option maxHeartbeats 4000000
open Go.RowKit
set_option maxRecDepth 4000
abbrev zRun:List Value:=[.string ⟨#[]⟩,.int .u8 0,.bool false,.bool false,.string ⟨#[]⟩]
theorem run_s4 {x:SR}:gset (runC x) 4 (.string ⟨#[]⟩)=some (runC (bare x)):=gset_ok (by simp [runC]) rfl
theorem row_fill {w:Value} (hf:flatV w=true):fillL (List.replicate 1 (.slice none 0 0)) [(0,1,rowV w)]=some [w]:=by
 simp [fillL,rowV,hf,Value.cells]
theorem RunsC_snoc (l:List SR) (x:SR):RunsC l ++ runC x=RunsC (l ++ [x]):=by simp [RunsC]
theorem OR.snoc {H0 H:GHeap} {w:Value} {l:List SR} (h:OR H0 H w l) (x:SR) (hl:l.length≤2000000):
 ∃ w' H',gapp 5 40 5 (H.add (some (.cells (runC x) 5 true))) w (.slice (some ⟨H.len,0,none⟩) 1 2)=some (w',H')∧OR H0 H' w' (l ++ [x])∧Keep 5 H H':=by
 obtain ⟨w',H',e,hO,hB⟩:=OS.app1 h (by decide) (by decide) (news:=runC x) rfl (b:=40) (by omega) (by omega)
 refine ⟨w',H',e,?_,keep_but h hB⟩
 rw [RunsC_snoc] at hO
 unfold OR
 rw [List.length_append];exact hO
theorem OR.cell {H0 H:GHeap} {w:Value} {l:List SR} (h:OR H0 H w l) {i:Nat} {c d:List Value} (m:H.mine i=some (c,0)) (hi:H0.len≤i):OR H0 (H.put i (.cells d 0 true)) w l:=
 OS.but h ((But.refl (S:=fun j=>j=i) h.same.wf).put rfl (mine_lt h.same.wf m) _) (fun j hj e=>by omega) fun a ha e=>OS.notin h m (by decide) (e ▸ ha)
theorem bare_ok {H:GHeap} (hw:H.wf) {v:Value} {L:List VR'} (hT:TR H v L) (hl:L.length≤4) (hs:∀ x ∈ L,smR x.2):
 ∃ r H',gev G 46 [v] H=some (r,H')∧∃ LL,TO H H' r LL∧LL.map (·.2)=L.map fun x=>bareF x.2:=by
 refine gev_GW (f:=46) rfl fun Post hPost=>?_
 have hlim:=hw.1
 have hsl:=hT.isSl
 simp only [frameOf,Nat.reduceAdd]
 repeat' (first|refine zz2 @g46.eq_1 hsl.len ?_|(refine zh (fun hc=>?_) (fun hc=>?_)<;>try simp only [yL] at hc))
 refine GW_loop (fun k fr H1=>∃ (j:Nat) (r:Value) (LL:List VR'),k=L.length - j∧j≤L.length∧fr.get 3=some (r)∧fr.get 9=some (v)∧fr.get 10=some (.int .i64 L.length)∧fr.get 11=some (.int .i64 j)∧TO H H1 r LL∧LL.map (·.2)=(L.map fun x=>bareF x.2).take j) ?_ L.length ?_
 case refine_2=>
  refine ⟨0,.slice none 0 0,[],by omega,by omega,?_⟩
  simp only [↓yG,Nat.reduceEqDiff,↓reduceIte,Int.natCast_add,Int.cast_ofNat_Int,Int.natCast_zero,true_and,and_true,Option.some.injEq,Value.int.injEq]
  exact ⟨⟨OS.nil (Same.refl hw),fun x hx=>by cases hx⟩,rfl⟩
 rintro k fr H1 ⟨j,r,LL,rfl,hj,f3,f9,f10,f11,hO,hLL⟩ J hJ
 have hS:=hO.own.same
 have hw1:=hS.wf
 have hlim1:=hw1.1
 have hLLl:LL.length=j:=by
  have:=congrArg List.length hLL
  rw [List.length_map,List.length_take,List.length_map] at this
  omega
 by_cases hj1:j < L.length
 case neg=>
  obtain rfl:j=L.length:=by omega
  rw [List.take_of_length_le (by simp)] at hLL
  repeat' (first|(exfalso;omega)|refine zz5 @g46.eq_1 @f3 @f9 @f10 @f11 ?_|(refine zh (fun hc=>?_) (fun hc=>?_)<;>try simp only [yL] at hc))
  exact hPost _ _ ⟨LL,hO,hLL⟩
 obtain ⟨e1,_,r1⟩:=(hT.later hw hS).row hj1
 have r0:=hT.rows _ (bang_mem hj1)
 have hsm:=hs _ (bang_mem hj1)
 have htk:(L.map fun x=>bareF x.2).take (j+1)=(L.map fun x=>bareF x.2).take j ++ [bareF L[j]!.2]:=by
  rw [List.take_succ_eq_append_getElem (by simpa using hj1)]
  simp [getElem!_pos L j hj1]
 have hrow:∀ x,rowV x=.agg [x].toArray:=fun _=>rfl
 generalize L[j]!.1=w0 at *
 generalize L[j]!.2=l0 at *
 have hf:=r1.flat
 have hst:=gst_add hw1 (n:=1) (z:=[.slice none 0 0]) (u:=0) (vs:=#[w0]) rfl rfl (by simp [hf])
 obtain ⟨H2,hH2⟩:∃ H2,H2=(H1.add (some (.cells [.slice none 0 0] 0 true))).put H1.len (.cells [w0] 0 true):=⟨_,rfl⟩
 have hS12:Same H1 H2:=hH2 ▸ (Same.refl hw1).new _ _
 have m5:H2.mine H1.len=some ([w0],0):=by rw [hH2,mine_put_same (by rw [lim_add];exact hlim1)]
 rw [← hH2] at hst
 clear hH2
 have hw2:=hS12.wf
 have hlim2:=hw2.1
 have hl2:=mine_lt hw2 m5
 have q5:=rd_mine m5
 have hsr:=(r1.later hw1 hS12).isSl
 repeat' (first|(exfalso;omega)|refine zz12 @g46.eq_1 @f3 @f9 @f10 @f11 hsl.ix @Nat.mul_one @e1 @hrow @hst @q5 hsr.len ?_|(refine zh (fun hc=>?_) (fun hc=>?_)<;>try simp only [yL] at hc))
 have m6:(H2.add (some (.cells [.slice none 0 0] 0 true))).mine H2.len=some ([.slice none 0 0],0):=mine_add_eq rfl hlim2
 have hS3:=hS12.add (.cells [.slice none 0 0] 0 true)
 have hi6:H1.len≤H2.len:=hS12.len
 generalize H2.add (some (.cells [.slice none 0 0] 0 true))=H3 at *
 generalize H2.len=i6 at *
 have hln:=hsm.1
 refine GW_loop (fun k fr H4=>∃ (i:Nat) (w':Value),k=l0.length - i∧i≤l0.length∧fr.get 3=some (r)∧fr.get 6=some (.pointer (some ⟨i6,0,none⟩))∧fr.get 9=some (v)∧fr.get 10=some (.int .i64 L.length)∧fr.get 11=some (.int .i64 j)∧fr.get 16=some (w0)∧fr.get 17=some (.int .i64 l0.length)∧fr.get 18=some (.int .i64 i)∧OR H1 H4 w' ((l0.take i).map bare)∧H4.mine i6=some ([w'],0)) ?_ l0.length ?_
 rotate_left
 ·refine ⟨0,.slice none 0 0,by omega,by omega,?_⟩
  simp only [↓yG,Nat.reduceEqDiff,↓reduceIte,Int.natCast_add,Int.cast_ofNat_Int,Int.natCast_zero,true_and,and_true,Option.some.injEq,Value.int.injEq,f3,f9,f10,f11]
  exact ⟨OS.nil hS3,m6⟩
 rintro k' fr2 H4 ⟨i,w',rfl,hi,a3,a6,a9,a10,a11,a16,a17,a18,hR,m4⟩ J2 hJ2
 have hS4:=hR.same
 have hw4:=hS4.wf
 have hlim4:=hw4.1
 by_cases hi1:i < l0.length
 ·have e4:=(r1.later hw1 hS4).rowN hi1
  have htk2:(l0.take (i+1)).map bare=(l0.take i).map bare ++ [bare l0[i]!]:=by
   rw [List.take_succ_eq_append_getElem hi1,List.map_append,← getElem!_pos l0 i hi1];rfl
  generalize l0[i]! =x at *
  have st:=gsetn_run (cs:=zRun) (x:=x) rfl
  obtain ⟨H5,hH5⟩:∃ H5,H5=(H4.add (some (.cells zRun 0 true))).put H4.len (.cells (runC (bare x)) 0 true):=⟨_,rfl⟩
  have hS45:Same H4 H5:=hH5 ▸ (Same.refl hw4).new _ _
  have p5:H5.rdn H4.len 0 5=some (runV (bare x)):=by rw [hH5,rdn_runp]
  have hHs5:=hH5.symm
  clear hH5
  have m45:=(hS45.mine (mine_lt hw4 m4)).trans m4
  have q6:=rd_mine m45
  obtain ⟨w5,H6,e6,hR6,hK⟩:=OR.snoc (H0:=H1) (H:=H5) (OS.later hR hS45) (bare x) (by simp only [List.length_map,List.length_take];omega)
  have m66:=hK _ _ _ (by decide) m45
  have hfl:=OR.flat hR6
  have g5:gset [w'] 0 w5=some [w5]:=gset_ok (by simp) hfl
  repeat' (first|(exfalso;omega)|refine zz20 @g46.eq_1 @a3 @a6 @a9 @a10 @a11 @a16 @a17 @a18 hsr.ix @e4 @st @run_s4 @hHs5 @q6 @p5 @fill_run @e6 @m66 @g5 ?_|(refine zh (fun hc=>?_) (fun hc=>?_)<;>try simp only [yL] at hc))
  refine hJ2 _ _ ⟨l0.length - (i+1),by omega,i+1,w5,rfl,by omega,?_⟩
  simp only [↓yG,Nat.reduceEqDiff,↓reduceIte,Int.natCast_add,Int.cast_ofNat_Int,Int.natCast_zero,true_and,and_true,Option.some.injEq,Value.int.injEq,a3,a6,a9,a10,a11,a16,a17]
  rw [htk2]
  exact ⟨hR6.cell m66 hi6,mine_put_same (mine_obj m66).1⟩
 obtain rfl:i=l0.length:=by omega
 rw [List.take_of_length_le (Nat.le_refl _)] at hR
 have p6:H4.rdn i6 0 1=some (rowV w'):=rdn_mine m4 rfl
 repeat' (first|(exfalso;omega)|refine zz10 @g46.eq_1 @a3 @a6 @a9 @a10 @a11 @a16 @a17 @a18 @p6 ?_|(refine zh (fun hc=>?_) (fun hc=>?_)<;>try simp only [yL] at hc))
 have htt:tot (l0.map bare)=tot l0:=by simp [tot,Function.comp_def,bare]
 have htot:=smR_tot hsm
 have ht2:tot l0≤1099511627776:=Nat.le_trans htot (Nat.mul_le_mul_right 1048576 hln)
 refine zc0 (Norm_ok hw4 hR.rr (by rw [List.length_map];omega) (by omega)) fun r7 H7 hq=>?_
 obtain ⟨w7,rfl,hO7⟩:=hq
 have hfl:=OR.flat hO7
 have hfi:=row_fill hfl
 have hS17:=hS4.trans hO7.same
 obtain ⟨v',H8,e8,hO8,_⟩:=(hO.later hS17).snoc (OR.weaken hO7 (hS.trans hS4)) (by omega)
 repeat' (first|refine zz11 @g46.eq_1 @a3 @a6 @a9 @a10 @a11 @a16 @a17 @a18 @hfi @e8 ?_|(refine zh (fun hc=>?_) (fun hc=>?_)<;>try simp only [yL] at hc))
 refine hJ _ _ ⟨L.length - (j+1),by omega,j+1,v',LL ++ [(w7,normF (l0.map bare))],rfl,by omega,?_⟩
 simp only [↓yG,Nat.reduceEqDiff,↓reduceIte,Int.natCast_add,Int.cast_ofNat_Int,Int.natCast_zero,true_and,and_true,Option.some.injEq,Value.int.injEq,a9,a10]
 exact ⟨hO8,by rw [List.map_append,hLL,htk];rfl⟩
end Go.Gh
end
section
namespace Go.Gh
set_option linter.unusedSimpArgs false
set_option linter.unusedVariables false
set_option maxHeartbeats 4000000
open Go.RowKit
set_option maxRecDepth 4000
abbrev zSy:List Value:=[.int .u8 0,.bool false,.bool false]
theorem gapp_new {s u n:Nat} {H0 H H':GHeap} {v v':Value} {xs news:List Value} (h:OS s u H0 H v n xs) (hu:u≠0) (hs:s≠0) (hn:news.length=s) {b:Nat} (hb:(n+1) * b≤140737488355328) (hk:n < 140737488355328)
 (e:gapp s b u (H.add (some (.cells news u true))) v (.slice (some ⟨H.len,0,none⟩) 1 2)=some (v',H')):∀ a ∈ idOf v',H.len≤a:=by
 have hw:=h.same.wf
 have hO2:OwnG (H.add (some (.cells news u true))) v s u n xs:=⟨h.own.len,h.own.at_.imp id fun ⟨j,gc,e,hg,hm⟩=>⟨j,gc,e,hg,by rw [mine_add_ne (by have:=mine_lt hw hm;omega)];exact hm⟩⟩
 obtain ⟨v2,H2,k1,k2,_,_,_,k6,_⟩:=gapp_own (bytes:=b) (m:=1) (x:=.slice (some ⟨H.len,0,none⟩) 1 2) (news:=news) ((Fwd.add hw (some (.cells news u true))).wf hw) hO2 hu hs rfl (gcells_own (mine_add_eq rfl hw.1) (by omega)) (by omega) (by omega) (by omega) (by omega)
 obtain ⟨rfl,rfl⟩:=Prod.mk.inj (Option.some.inj (k1.symm.trans e))
 intro a ha
 rcases k2.at_ with ⟨e,_⟩|⟨i,gc,e,_⟩
 ·rw [e] at ha;simp [idOf] at ha
 ·rw [e] at ha k6
  simp only [idOf,List.mem_singleton] at ha
  simp only [blk,len_add] at k6
  omega
theorem strB_toL (e:ByteArray):strB (toL e)=e:=by
 apply ByteArray.ext
 apply Array.ext'
 simp [strB,toL]
theorem OR.snocB {H0 H:GHeap} {w:Value} {l:List SR} (h:OR H0 H w l) (x:SR) (hl:l.length≤2000000):
 ∃ w' H',gapp 5 40 5 (H.add (some (.cells (runC x) 5 true))) w (.slice (some ⟨H.len,0,none⟩) 1 2)=some (w',H')∧OR H0 H' w' (l ++ [x])∧But (fun j=>j ∈ idOf w) H H'∧∀ a ∈ idOf w',H.len≤a:=by
 obtain ⟨w',H',e,hO,hB⟩:=OS.app1 h (by decide) (by decide) (news:=runC x) rfl (b:=40) (by omega) (by omega)
 refine ⟨w',H',e,?_,hB,gapp_new (news:=runC x) h (by decide) (by decide) rfl (by omega) (by omega) e⟩
 rw [RunsC_snoc] at hO
 unfold OR
 rw [List.length_append];exact hO
theorem TO.beside {H0 H H':GHeap} {v w:Value} {L:List VR'} {l:List SR} (h:TO H0 H v L) (hw:OR H0 H w l) (hb:But (fun j=>j ∈ idOf w) H H') (hd:∀ x ∈ L,∀ a ∈ idOf w,¬ a ∈ idOf x.1):TO H0 H' v L:=
 ⟨h.own.but hb (fun k hk ha=>by have:=(OS.ids hw ha).1;omega) fun a ha hc=>by
   have h1:=(h.own.ids ha).2.2
   rw [(OS.ids hw hc).2.2] at h1
   simp at h1,fun x hx=>OS.but (h.rows x hx) hb (fun k hk ha=>by have:=(OS.ids hw ha).1;omega) fun a ha hc=>hd x hx a hc ha⟩
theorem TO.cell {H0 H:GHeap} {v:Value} {L:List VR'} (h:TO H0 H v L) {i:Nat} {c d:List Value} (m:H.mine i=some (c,0)) (hi:H0.len≤i):TO H0 (H.put i (.cells d 0 true)) v L:=
 ⟨h.own.but ((But.refl (S:=fun j=>j=i) h.own.same.wf).put rfl (mine_lt h.own.same.wf m) _) (fun j hj e=>by omega) fun a ha e=>OS.notin h.own m (by decide) (e ▸ ha),fun x hx=>(h.rows x hx).cell m hi⟩
theorem TO.low {H0 H:GHeap} {v:Value} {L:List VR'} (h:TO H0 H v L) {x:VR'} (hx:x ∈ L) {a:Nat} (ha:a ∈ idOf x.1):a < H.len:=(OS.ids (h.rows x hx) ha).2.1
theorem tot_snoc (l:List SR) (x:SR):tot (l ++ [x])=tot l+x.t.length:=by simp [tot]
theorem rows_ok {H:GHeap} (hw:H.wf) {p:Value} {P:List Int} {res:List (List SR)} (hp:GArg1 H 1 p P.length (ints .u8 P)) (hP:inR P) (hl:P.length≤20000) (hSc:Scan [] [] sy0 P res):
 ∃ r H',gev G 94 [p] H=some (r,H')∧∃ w LL,r=.tuple #[w,.int .i64 0]∧TO H H' w LL∧LL.map (·.2)=res:=by
 refine gev_GW (f:=94) rfl fun Post hPost=>?_
 have hlim:=hw.1
 simp only [frameOf,Nat.reduceAdd]
 repeat' (first|refine zz1 @g94.eq_1 ?_|(refine zh (fun hc=>?_) (fun hc=>?_)<;>try simp only [yL] at hc))
 have hSb:Same H ((H.add (some (.cells [.slice none 0 0] 0 true))).add (some (.cells zSy 0 true))):=((Same.refl hw).add _).add _
 refine GW_loop (fun k fr H1=>∃ (P':List Int) (p' rv w':Value) (out:List (List SR)) (LL:List VR') (row:List SR) (now:Sy),k=P'.length∧fr.get 0=some (p')∧fr.get 4=some (rv)∧fr.get 5=some (.pointer (some ⟨H.len,0,none⟩))∧fr.get 6=some (.pointer (some ⟨H.len+1,0,none⟩))∧GArg1 H 1 p' P'.length (ints .u8 P')∧inR P'∧P'.length+row.length≤20000∧LL.length+P'.length≤20000∧tot row≤4 * row.length∧TO H H1 rv LL∧LL.map (·.2)=out∧OR H H1 w' row∧(∀ x ∈ LL,∀ a ∈ idOf w',¬ a ∈ idOf x.1)∧H1.mine H.len=some ([w'],0)∧H1.mine (H.len+1)=some (syC now,0)∧Scan out row now P' res) ?_ P.length ?_
 rotate_left
 ·refine ⟨P,p,.slice none 0 0,.slice none 0 0,[],[],[],sy0,rfl,?_⟩
  simp only [↓yG,Nat.reduceEqDiff,↓reduceIte,Int.natCast_add,Int.cast_ofNat_Int,Int.natCast_zero,true_and,and_true,Option.some.injEq,Value.int.injEq]
  have m5:((H.add (some (.cells [.slice none 0 0] 0 true))).add (some (.cells zSy 0 true))).mine H.len=some ([.slice none 0 0],0):=(((Same.refl (((Same.refl hw).add (.cells [.slice none 0 0] 0 true)).wf)).add _).mine (by rw [len_add];omega)).trans (mine_add_eq rfl hlim)
  have m6:((H.add (some (.cells [.slice none 0 0] 0 true))).add (some (.cells zSy 0 true))).mine (H.len+1)=some (syC sy0,0):=mine_add_eq (by rw [len_add]) (by rw [lim_add];omega)
  refine ⟨hp,hP,by simpa using hl,by simpa using hl,by simp [tot],⟨OS.nil hSb,fun x hx=>by cases hx⟩,rfl,OS.nil hSb,(fun x hx=>by cases hx),m5,m6,hSc⟩
 rintro k fr H1 ⟨P',p',rv,w',out,LL,row,now,rfl,f0,f4,f5,f6,hp',hP',hl1,hl2,htt,hT,hLL,hR,hdis,m5,m6,hS⟩ J hJ
 have hS1:=hR.same
 have hw1:=hS1.wf
 have hlim1:=hw1.1
 have hsl:=hp'.rd.isSl
 have hn1:H.len+1 < H1.len:=mine_lt hw1 m6
 have p5:H1.rdn H.len 0 1=some (rowV w'):=rdn_mine m5 rfl
 have p6:H1.rdn (H.len+1) 0 3=some (syV now):=rdn_mine m6 rfl
 cases P' with
 |nil=>
  cases hS
  repeat' (first|(exfalso;omega)|refine zz8 @g94.eq_1 @f0 @f4 @f5 @f6 hsl.len @List.length_nil.{0} @p5 ?_|(refine zh (fun hc=>?_) (fun hc=>?_)<;>try simp only [yL] at hc))
  simp only [List.length_nil] at hl1 hl2
  refine zc1 @f4 (Norm_ok hw1 hR.rr (by omega) (by omega)) fun r7 H7 hq=>?_
  obtain ⟨w7,rfl,hO7⟩:=hq
  have hfi:=row_fill (OR.flat hO7)
  obtain ⟨v',H8,e8,hO8,_⟩:=(hT.later hO7.same).snoc (OR.weaken hO7 hS1) (by omega)
  repeat' (first|refine zz4 @g94.eq_1 @f4 @hfi @e8 ?_|(refine zh (fun hc=>?_) (fun hc=>?_)<;>try simp only [yL] at hc))
  exact hPost _ _ ⟨v',_,rfl,hO8,by simp [hLL]⟩
 |cons c t=>
  have hlen:(c :: t).length=t.length+1:=rfl
  have hr0:H1.rd (blk p') (ofs p')=some (.int .u8 c):=by
   have:=(hp'.same hw hS1).rd.rd (c:=0) (by rw [ints_length];simp)
   rwa [ints_at (by simp)] at this
  have z0:decide (0 < ((t.length:Int)+1))=true:=decide_eq_true (by omega)
  have hl3:t.length+1+row.length≤20000:=hl1
  have hl4:LL.length+(t.length+1)≤20000:=hl2
  by_cases hc:c=138
  ·subst hc
   have hS':Scan (out ++ [normF row]) [] sy0 t res:=by
    cases hS with
    |nl h=>exact h
    |sw h=>exact absurd rfl h
    |ch h=>exact absurd rfl h
   obtain ⟨v2,e2,h2⟩:=hp'.suf (k:=.i64) (a:=1) (by omega)
   have h2':GArg1 H 1 v2 t.length (ints .u8 t):=h2
   repeat' (first|(exfalso;omega)|refine zz10 @g94.eq_1 @f0 @f4 @f5 @f6 hsl.len hsl.ix @hlen @hr0 @p5 ?_|(refine zh (fun hc=>?_) (fun hc=>?_)<;>try simp only [yL] at hc))
   refine zc4 @f0 @f4 @f5 @f6 (Norm_ok hw1 hR.rr (by omega) (by omega)) fun r7 H7 hq=>?_
   obtain ⟨w7,rfl,hO7⟩:=hq
   have hS7:=hO7.same
   have hfi:=row_fill (OR.flat hO7)
   obtain ⟨v',H8,e8,hO8,hB⟩:=(hT.later hS7).snoc (OR.weaken hO7 hS1) (by omega)
   have hK:=keep_but (hT.later hS7).own hB
   have m58:=hK _ _ _ (by decide) ((hS7.mine (mine_lt hw1 m5)).trans m5)
   have m68:=hK _ _ _ (by decide) ((hS7.mine (mine_lt hw1 m6)).trans m6)
   have gs5:gsetn [w'] 0 1 (.agg #[.slice none 0 0])=some [.slice none 0 0]:=gsetn_all rfl rfl rfl
   have gs6:gsetn (syC now) 0 3 (.agg #[.int .u8 0,.bool false,.bool false])=some (syC sy0):=gsetn_sy (x:=sy0) rfl
   obtain ⟨HA,hHA⟩:∃ K,K=H8.put H.len (.cells [.slice none 0 0] 0 true):=⟨_,rfl⟩
   have mA5:HA.mine H.len=some ([.slice none 0 0],0):=by rw [hHA,mine_put_same (mine_obj m58).1]
   have mA6:HA.mine (H.len+1)=some (syC now,0):=by rw [hHA,mine_put_ne (by omega)];exact m68
   have hTA:TO H HA v' (LL ++ [(w7,normF row)]):=hHA ▸ hO8.cell m58 (Nat.le_refl _)
   have hHsA:=hHA.symm
   clear hHA
   have hTB:=hTA.cell (d:=syC sy0) mA6 (Nat.le_succ _)
   have e3:gslice (.sl 1) (HA.put (H.len+1) (.cells (syC sy0) 0 true)) p' (some (.int .i64 1)) none none=some v2:=((hp'.gslice_same hw hTB.own.same _ _ _)).trans e2
   repeat' (first|refine zz13 @g94.eq_1 @f0 @f4 @f5 @f6 @hfi @e8 @m58 @gs5 @hHsA @mA6 @gs6 @e3 ?_|(refine zh (fun hc=>?_) (fun hc=>?_)<;>try simp only [yL] at hc))
   refine hJ _ _ ⟨t.length,by omega,t,v2,v',.slice none 0 0,out ++ [normF row],LL ++ [(w7,normF row)],[],sy0,rfl,?_⟩
   simp only [↓yG,Nat.reduceEqDiff,↓reduceIte,Int.natCast_add,Int.cast_ofNat_Int,Int.natCast_zero,true_and,and_true,Option.some.injEq,Value.int.injEq,f5,f6]
   refine ⟨h2',fun n hn=>hP' n (by simp [hn]),by simp only [List.length_nil];omega,by simp only [List.length_append,List.length_singleton];omega,by simp [tot],hTB,by simp [hLL],OS.nil hTB.own.same,(fun x hx a ha=>by simp [idOf] at ha),?_,mine_put_same (mine_obj mA6).1,hS'⟩
   rw [mine_put_ne (by omega)];exact mA5
  have d8:decide (c=138)=false:=decide_eq_false hc
  have hcr:=hP' c (by simp)
  have k154:=turn_ok now hcr
  unfold trV at k154
  by_cases ht:∃ s,trn now c=some s
  ·obtain ⟨s,ht⟩:=ht
   have hS':Scan out row s t res:=by
    cases hS with
    |nl h=>exact absurd rfl hc
    |sw _ h k=>rw [ht] at h;exact Option.some.inj h ▸ k
    |ch _ h=>rw [ht] at h;cases h
   rw [ht] at k154
   simp only [Option.getD_some,Option.isSome_some] at k154
   obtain ⟨v2,e2,h2⟩:=hp'.suf (k:=.i64) (a:=1) (by omega)
   have h2':GArg1 H 1 v2 t.length (ints .u8 t):=h2
   obtain ⟨H2,hH2⟩:∃ K,K=(H1.add (some (.cells zSy 0 true))).put H1.len (.cells (syC s) 0 true):=⟨_,rfl⟩
   have hS12:Same H1 H2:=hH2 ▸ (Same.refl hw1).new _ _
   have p7:H2.rdn H1.len 0 3=some (syV s):=by rw [hH2];exact rdn_mine (mine_put_same (by rw [lim_add];exact hlim1)) rfl
   have hHs2:=hH2.symm
   clear hH2
   have m52:=(hS12.mine (mine_lt hw1 m5)).trans m5
   have m62:=(hS12.mine hn1).trans m6
   have gs6:gsetn (syC now) 0 3 (syV s)=some (syC s):=gsetn_sy rfl
   have hT3:=(hT.later hS12).cell (d:=syC s) m62 (Nat.le_succ _)
   have hR3:=OR.cell (d:=syC s) (OS.later hR hS12) m62 (Nat.le_succ _)
   have e3:gslice (.sl 1) (H2.put (H.len+1) (.cells (syC s) 0 true)) p' (some (.int .i64 1)) none none=some v2:=(hp'.gslice_same hw hT3.own.same _ _ _).trans e2
   repeat' (first|(exfalso;omega)|refine zz19 @g94.eq_1 @f0 @f4 @f5 @f6 hsl.len hsl.ix @hlen @hr0 @d8 @p6 @k154 @RK @RN @hHs2 @p7 @m62 @gs6 @e3 ?_|(refine zh (fun hc=>?_) (fun hc=>?_)<;>try simp only [yL] at hc))
   refine hJ _ _ ⟨t.length,by omega,t,v2,rv,w',out,LL,row,s,rfl,?_⟩
   simp only [↓yG,Nat.reduceEqDiff,↓reduceIte,Int.natCast_add,Int.cast_ofNat_Int,Int.natCast_zero,true_and,and_true,Option.some.injEq,Value.int.injEq,f4,f5,f6]
   refine ⟨h2',fun n hn=>hP' n (by simp [hn]),by omega,by omega,htt,hT3,hLL,hR3,hdis,?_,mine_put_same (mine_obj m62).1,hS'⟩
   rw [mine_put_ne (by omega)];exact m52
  have ht':trn now c=none:=by
   cases h:trn now c with
   |none=>rfl
   |some s=>exact absurd ⟨s,h⟩ ht
  rw [ht'] at k154
  simp only [Option.getD_none,Option.isSome_none] at k154
  have hS':∃ x n:Nat,getA (c :: t)=((x:Int),(n:Int))∧x ∈ REP∧1≤n∧n≤(c :: t).length∧Scan out (row ++ [⟨encL x,now,[]⟩]) now ((c :: t).drop n) res:=by
   cases hS with
   |nl h=>exact absurd rfl hc
   |sw _ h k=>rw [ht'] at h;cases h
   |ch _ _ h1 h2 h3 h4 h5=>exact ⟨_,_,h1,h2,h3,h4,h5⟩
  clear hS
  obtain ⟨x,n,hg,hx,hn1',hn2,hS'⟩:=hS'
  obtain ⟨H2,hH2⟩:∃ K,K=(H1.add (some (.cells zSy 0 true))).put H1.len (.cells (syC now) 0 true):=⟨_,rfl⟩
  have hS12:Same H1 H2:=hH2 ▸ (Same.refl hw1).new _ _
  have hHs2:=hH2.symm
  clear hH2
  repeat' (first|(exfalso;omega)|refine zz15 @g94.eq_1 @f0 @f4 @f5 @f6 hsl.len hsl.ix @hlen @hr0 @d8 @p6 @k154 @RK @RN @hHs2 ?_|(refine zh (fun hc=>?_) (fun hc=>?_)<;>try simp only [yL] at hc))
  have hS2:=hS1.trans hS12
  refine zc4 @f0 @f4 @f5 @f6 (get_ok hS2.wf (hp'.same hw hS2).rd hP' (by omega)) fun r3 H3 hq=>?_
  obtain ⟨rfl,hS23⟩:=hq
  rw [hg]
  have hS13:=hS12.trans hS23
  have m53:=(hS13.mine (mine_lt hw1 m5)).trans m5
  have m63:=(hS13.mine hn1).trans m6
  have q5:=rd_mine m53
  have q6:H3.rdn (H.len+1) 0 3=some (syV now):=rdn_mine m63 rfl
  have hR3:=OS.later hR hS13
  have hT3:=hT.later hS13
  obtain ⟨w5,H6,e6,hR6,hB6,hy⟩:=OR.snocB hR3 ⟨encL x,now,[]⟩ (by omega)
  have hen:Utf8.encode (x:Int)=strB (encL x):=(strB_toL _).symm
  have hK:=keep_but hR3 hB6
  have m56:=hK _ _ _ (by decide) m53
  have m66:=hK _ _ _ (by decide) m63
  have g5:gset [w'] 0 w5=some [w5]:=gset_ok (by simp) (OR.flat hR6)
  have dn:decide ((n:Int)=0)=false:=decide_eq_false (by omega)
  have hT6:=hT3.beside hR3 hB6 hdis
  have hT7:=hT6.cell (d:=[w5]) m56 (Nat.le_refl _)
  obtain ⟨v2,e2,h2⟩:=hp'.suf (k:=.i64) (a:=n) hn2
  have e3:gslice (.sl 1) (H6.put H.len (.cells [w5] 0 true)) p' (some (.int .i64 n)) none none=some v2:=(hp'.gslice_same hw hT7.own.same _ _ _).trans e2
  repeat' (first|(exfalso;omega)|refine zz17 @g94.eq_1 @f0 @f4 @f5 @f6 @dn @q5 @q6 @gcv_str @hen @fill_of @runV_eq @fill_run @e6 @m56 @g5 @e3 ?_|(refine zh (fun hc=>?_) (fun hc=>?_)<;>try simp only [yL] at hc))
  have hdl:((c :: t).drop n).length=t.length+1 - n:=by rw [List.length_drop];rfl
  have hel:=(encL_len hx).1
  refine hJ _ _ ⟨((c :: t).drop n).length,by omega,(c :: t).drop n,v2,rv,w5,out,LL,row ++ [⟨encL x,now,[]⟩],now,rfl,?_⟩
  simp only [↓yG,Nat.reduceEqDiff,↓reduceIte,Int.natCast_add,Int.cast_ofNat_Int,Int.natCast_zero,true_and,and_true,Option.some.injEq,Value.int.injEq,f4,f5,f6]
  refine ⟨?_,fun n hn=>hP' n (List.mem_of_mem_drop hn),?_,by omega,?_,hT7,hLL,hR6.cell m56 (Nat.le_refl _),(fun y hy' a ha hc'=>?_),mine_put_same (mine_obj m56).1,?_,hS'⟩
  ·rw [hdl]
   have:(ints .u8 (c :: t)).drop n=ints .u8 ((c :: t).drop n):=by simp [ints,List.map_drop]
   rw [← this];exact h2
  ·rw [hdl,List.length_append];simp only [List.length_singleton];omega
  ·rw [tot_snoc,List.length_append];simp only [List.length_singleton];omega
  ·have:=hT3.low hy' hc'
   have:=hy a ha
   omega
  ·rw [mine_put_ne (by omega)];exact m66
end Go.Gh
end
section
namespace Go.Gh
set_option linter.unusedSimpArgs false
set_option linter.unusedVariables false
set_option maxHeartbeats 4000000
open Go.RowKit
set_option maxRecDepth 4000
abbrev zRg:List Value:=[.string ⟨#[]⟩,.int .i64 0,.int .i64 0,.int .i64 0,.int .i64 0,.int .u8 0,.bool false]
def lensE (e:Ev):List Int:=e.rows.map lenF
theorem spots_ok {H:GHeap} (hw:H.wf) {e:Ev} (hT:TR H e.v e.L) (hs:smE e) {v:Value} {R:List Rg} (hR:RgR H v R) (hRl:R.length≤1048576) {r:Rg} (hr:smG r) (hf:findR R e.rg=some r) (hp:plcOk r (lensE e)):
 ∃ q H',gev G 48 [evV e,v] H=some (q,H')∧∃ s,q=.tuple #[s,.int .i64 0]∧OS 3 3 H H' s (lensE e).length ((List.range (lensE e).length).flatMap (spF r (lensE e))):=by
 refine gev_GW (f:=48) rfl fun Post hPost=>?_
 have hlim:=hw.1
 have fe:=ev_cflat hT.rd.flat
 have hrl:e.rows.length=e.L.length:=by simp [Ev.rows]
 simp only [frameOf,Nat.reduceAdd]
 repeat' (first|refine zz4 @g48.eq_1 @RE @RG @fe ?_|(refine zh (fun hc=>?_) (fun hc=>?_)<;>try simp only [yL] at hc))
 have hS1:Same H (H.add (some (.cells (evC e) 0 true))):=(Same.refl hw).add _
 refine zc1 @RE (find_ok hS1.wf (GArg1.same hR hw hS1) hRl e.rg) fun r2 H2 hq=>?_
 obtain ⟨rfl,hS2⟩:=hq
 rw [show findV R e.rg=(r,true) by unfold findV;rw [hf]]
 have hS12:=hS1.trans hS2
 have hw2:=hS12.wf
 have hlim2:=hw2.1
 have hl1:H.len < (H.add (some (.cells (evC e) 0 true))).len:=by rw [len_add];omega
 have hl2:H.len < H2.len:=Nat.lt_of_lt_of_le hl1 hS2.len
 obtain ⟨H3,hH3⟩:∃ H3,H3=(H2.add (some (.cells zRg 0 true))).put H2.len (.cells (rgC r) 0 true):=⟨_,rfl⟩
 have hS23:Same H2 H3:=hH3 ▸ (Same.refl hw2).new _ _
 have hl23:H2.len < H3.len:=by rw [hH3];simp only [len_put,len_add];omega
 have b7:H3.rdn H2.len 0 7=some (rgV r):=by rw [hH3,rdn_rgp]
 have hS3:=hS12.trans hS23
 have b17:H3.rdn H.len 0 7=some (evV e):=by rw [hS23.rdn hl2,hS2.rdn hl1,rdn_ev rfl]
 repeat' (first|refine zz5 @g48.eq_1 @RE @RG hH3.symm @b17 ?_|(refine zh (fun hc=>?_) (fun hc=>?_)<;>try simp only [yL] at hc))
 refine zc1 @b17 (lens_ok hS3.wf (hT.later hw hS3) hs.2.2.2.1 hs.2.2.2.2) fun r4 H4 hO=>?_
 have hnl:(lensE e).length=e.L.length:=by rw [lensE,List.length_map,hrl]
 rw [← hnl] at hO
 change OS 1 1 H3 H4 r4 _ (ints .i64 (lensE e)) at hO
 have hsl:=hO.rd.isSl
 have hb4:H4.rdn H2.len 0 7=some (rgV r):=(hO.same.rdn hl23).trans b7
 have hS4:=hS3.trans hO.same
 have hNl:(lensE e).length≤1048576:=hnl ▸ hs.2.2.2.1
 generalize lensE e=N at *
 repeat' (first|refine zz2 @g48.eq_1 hsl.len ?_|(refine zh (fun hc=>?_) (fun hc=>?_)<;>try simp only [yL] at hc))
 refine GW_loop (fun k fr K=>∃ j:Nat,k=N.length - j∧j≤N.length∧fr.get 6=some (.pointer (some ⟨H2.len,0,none⟩))∧fr.get 8=some (r4)∧fr.get 22=some (r4)∧fr.get 23=some (.int .i64 N.length)∧fr.get 24=some (.int .i64 j)∧K=H4) ?_ N.length ?_
 rotate_left
 ·refine ⟨0,rfl,by omega,?_⟩
  simp only [↓yG,Nat.reduceEqDiff,↓reduceIte,Int.natCast_add,Int.cast_ofNat_Int,Int.natCast_zero,true_and,and_true,Option.some.injEq,Value.int.injEq]
 rintro k fr K ⟨j,rfl,hj,f6,f8,f22,f23,f24,rfl⟩ J hJ
 by_cases hj1:j < N.length
 ·have e1:=hO.rd.rd (c:=j) (by rw [ints_length];omega)
  rw [ints_at hj1] at e1
  have h0:0≤N[j]!:=(hp.2.2 _ (bang_mem hj1)).1
  have d0:decide (N[j]! < 0)=false:=decide_eq_false (by omega)
  repeat' (first|(exfalso;omega)|refine zz10 @g48.eq_1 @f6 @f8 @f22 @f23 @f24 hsl.ix @Nat.mul_one @e1 @d0 ?_|(refine zh (fun hc=>?_) (fun hc=>?_)<;>try simp only [yL] at hc))
  refine hJ _ _ ⟨N.length - (j+1),by omega,j+1,rfl,by omega,?_⟩
  simp only [↓yG,Nat.reduceEqDiff,↓reduceIte,Int.natCast_add,Int.cast_ofNat_Int,Int.natCast_zero,true_and,and_true,Option.some.injEq,Value.int.injEq,f6,f8,f22,f23]
 ·repeat' (first|(exfalso;omega)|refine zz7 @g48.eq_1 @f6 @f8 @f22 @f23 @f24 @hb4 ?_|(refine zh (fun hc=>?_) (fun hc=>?_)<;>try simp only [yL] at hc))
  refine zc1 @f6 (place_ok' hS4.wf hr hO.rd hNl) fun r5 H5 hq=>?_
  obtain ⟨s,_,rfl,⟨n,rfl,hn⟩,_,h5⟩:=hq
  obtain rfl:=hn.2 hp
  repeat' (first|refine zz2 @g48.eq_1 @f6 ?_|(refine zh (fun hc=>?_) (fun hc=>?_)<;>try simp only [yL] at hc))
  exact hPost _ _ ⟨s,rfl,OS.weaken (h5 hp) hS4⟩
theorem placed_ok {H:GHeap} (hw:H.wf) {d:Dc} (hd:DcR H d) {e:Ev} (hT:TR H e.v e.L) (hs:smE e) (hRl:d.R.length≤1048576) {r:Rg} (hr:smG r) (hf:findR d.R e.rg=some r) (hp:plcOk r (lensE e)) (h1:1≤e.L.length):
 ∃ q H',gev G 36 [dcV d,evV e] H=some (q,H')∧(q=plV (topF r e.L.length) r.al∧Same H H'):=by
 refine gev_GW (f:=36) rfl fun Post hPost=>?_
 have hlim:=hw.1
 have fe:=ev_cflat hT.rd.flat
 have fd:=dc_cflat hd
 simp only [frameOf,Nat.reduceAdd]
 obtain ⟨H1,hH1⟩:∃ H1,H1=((H.add (some (.cells (dcC d) 0 true))).add (some (.cells (evC e) 0 true))).add (some (.cells [.int .i64 0,.int .u8 0] 0 true)):=⟨_,rfl⟩
 have hSa:Same H (H.add (some (.cells (dcC d) 0 true))):=(Same.refl hw).add _
 have hSb:=(Same.refl hSa.wf).add (.cells (evC e) 0 true)
 have hSc:=(Same.refl hSb.wf).add (.cells [.int .i64 0,.int .u8 0] 0 true)
 rw [← hH1] at hSc
 have m2:H1.mine H.len=some (dcC d,0):=((hSb.trans hSc).mine (by rw [len_add];omega)).trans (mine_add_eq rfl hlim)
 have m3:H1.mine (H.len+1)=some (evC e,0):=(hSc.mine (by rw [len_add,len_add];omega)).trans (mine_add_eq (by rw [len_add]) (by rw [lim_add];omega))
 have m4:H1.mine (H.len+1+1)=some ([.int .i64 0,.int .u8 0],0):=by rw [hH1];exact mine_add_eq (by rw [len_add,len_add]) (by rw [lim_add,lim_add];omega)
 have hS1:=hSa.trans (hSb.trans hSc)
 have q2:=rd_mine m2
 have q3:H1.rdn (H.len+1) 0 7=some (evV e):=rdn_mine m3 rfl
 repeat' (first|refine zz8 @g36.eq_1 @RE @RDc @fe @fd hH1.symm @q2 @q3 ?_|(refine zh (fun hc=>?_) (fun hc=>?_)<;>try simp only [yL] at hc))
 clear hH1
 refine zc1 @q3 (spots_ok hS1.wf (hT.later hw hS1) hs (GArg1.same hd.rg hw hS1) hRl hr hf hp) fun r2 H2 hq=>?_
 obtain ⟨s,rfl,hO⟩:=hq
 have hS2:=hS1.trans hO.same
 have m22:=(hO.same.mine (mine_lt hS1.wf m2)).trans m2
 have m32:=(hO.same.mine (mine_lt hS1.wf m3)).trans m3
 have m42:=(hO.same.mine (mine_lt hS1.wf m4)).trans m4
 have q2:=rd_mine m22
 have q3:=rd_mine m32
 repeat' (first|refine zz5 @g36.eq_1 @RE @RDc @q2 @q3 ?_|(refine zh (fun hc=>?_) (fun hc=>?_)<;>try simp only [yL] at hc))
 refine zc1 @RE (find_ok hS2.wf (GArg1.same hd.rg hw hS2) hRl e.rg) fun r5 H5 hq=>?_
 obtain ⟨rfl,hS25⟩:=hq
 rw [show findV d.R e.rg=(r,true) by unfold findV;rw [hf]]
 have hw5:=hS25.wf
 obtain ⟨H3,hH3⟩:∃ H3,H3=(H5.add (some (.cells zRg 0 true))).put H5.len (.cells (rgC r) 0 true):=⟨_,rfl⟩
 have hlim5:=hw5.1
 have hS53:Same H5 H3:=hH3 ▸ (Same.refl hw5).new _ _
 have b7:∀ c,H3.rd H5.len c=(rgC r)[c]?:=rd_mine (u:=0) (by rw [hH3,mine_put_same (by rw [lim_add];exact hw5.1)])
 have hHs:=hH3.symm
 clear hH3
 have hS3:=hS25.trans hS53
 have hO3:=hO.later hS3
 have m43:=(hS3.mine (mine_lt hS2.wf m42)).trans m42
 have hsl:=hO3.rd.isSl
 have hN:(lensE e).length=e.L.length:=by simp [lensE,Ev.rows]
 have hr0:H3.rd (blk s) (ofs s)=some (.int .i64 (topF r e.L.length)):=by
  have h0:=GRd.row hO3.rd (fun i=>spF_len r (lensE e) i) (k:=0) (c:=0) (by rw [List.length_range];omega) (by decide)
  rw [getElem!_pos _ 0 (by rw [List.length_range];omega),List.getElem_range] at h0
  simpa [spF,spC,hN] using h0
 rw [hN] at hsl
 have gs:gsetn [.int .i64 0,.int .u8 0] 0 2 (.agg #[.int .i64 (topF r e.L.length),.int .u8 r.al])=some [.int .i64 (topF r e.L.length),.int .u8 r.al]:=gsetn_all rfl rfl rfl
 repeat' (first|refine zz9 @g36.eq_1 @RE @RG @hHs hsl.ix @hr0 @b7 @m43 @gs ?_|(refine zh (fun hc=>?_) (fun hc=>?_)<;>try simp only [yL] at hc))
 exact hPost _ _ ⟨rfl,(hS2.trans hS3).put (by omega) (mine_lt hS3.wf m43) _⟩
end Go.Gh
end
section
namespace Go.Gh
set_option linter.unusedSimpArgs false
set_option linter.unusedVariables false
set_option maxHeartbeats 4000000
open Go.RowKit
set_option maxRecDepth 4000
def ltN (a b:List UInt8):Bool:=Op.bytesLess (strB a).toList (strB b).toList
def insF (r:Rg):List Rg→List Rg
 |[]=>[r]
 |x :: l=>if ltN x.nm r.nm=true then x :: insF r l else if x.nm=r.nm then x :: l else r :: x :: l
theorem drop_bangA {α:Type} [Inhabited α] {l:List α} {n:Nat} (h:n < l.length):l.drop n=l[n]! :: l.drop (n+1):=by rw [List.drop_eq_getElem_cons h,getElem!_pos l n h]
theorem ins_at {r:Rg}:∀ {L:List Rg} {i:Nat},i≤L.length→(∀ j,j < i→ltN L[j]!.nm r.nm=true)→insF r L=L.take i ++ insF r (L.drop i)
 |L,0,_,_=>by simp
 |[],i+1,h,_=>by simp at h
 |x :: l,i+1,h,hl=>by
  have h0:=hl 0 (by omega)
  have ih:=ins_at (r:=r) (L:=l) (i:=i) (by simpa using h) fun j hj=>by simpa using hl (j+1) (by omega)
  simp only [List.getElem!_cons_zero] at h0
  simp only [insF,h0,if_true,List.take_succ_cons,List.drop_succ_cons,List.cons_append,ih]
theorem ins_len {r:Rg}:∀ L:List Rg,(insF r L).length≤L.length+1
 |[]=>by simp [insF]
 |x :: l=>by
  have:=ins_len (r:=r) l
  unfold insF
  repeat' split
  all_goals simp only [List.length_cons];omega
theorem fill_rg {r:Rg}:fillL (zeros zRg 1) [(0,7,rgV r)]=some (rgC r):=by
 simp [fillL,zeros,rgV,rgC,Value.cells,flatV,gsetn]
theorem rows_split {α:Type} {f:α→List Value} {s:Nat} (hf:∀ x,(f x).length=s) (l:List α) (i:Nat):(l.flatMap f).take (i * s)=(l.take i).flatMap f∧(l.flatMap f).drop (i * s)=(l.drop i).flatMap f:=by
 by_cases hi:i≤l.length
 ·have h1:((l.take i).flatMap f).length=i * s:=by rw [rows_len hf,List.length_take,Nat.min_eq_left hi]
  have h2:l.flatMap f=(l.take i).flatMap f ++ (l.drop i).flatMap f:=by rw [← List.flatMap_append,List.take_append_drop]
  rw [h2,← h1]
  exact ⟨List.take_left,List.drop_left⟩
 ·have h1:(l.flatMap f).length≤i * s:=by rw [rows_len hf];exact Nat.mul_le_mul_right _ (by omega)
  have h2:l.length≤i:=by omega
  rw [List.take_of_length_le h1,List.drop_eq_nil_of_le h1,List.take_of_length_le h2,List.drop_eq_nil_of_le h2]
  exact ⟨rfl,rfl⟩
theorem GArg1.parts {α:Type} {f:α→List Value} {s:Nat} (hf:∀ x,(f x).length=s) {H:GHeap} {v:Value} {l:List α} (h:GArg1 H s v l.length (l.flatMap f)) {i:Nat} (hi:i≤l.length):
 ∃ a b,gslice (.sl s) H v none (some (.int .i64 i)) none=some a∧GArg1 H s a i ((l.take i).flatMap f)∧gslice (.sl s) H v (some (.int .i64 i)) none none=some b∧GArg1 H s b (l.length - i) ((l.drop i).flatMap f):=by
 obtain ⟨a,a1,a2,_⟩:=h.cut (k:=.i64) (a:=0) (b:=i) (by omega) (by omega) (by omega)
 obtain ⟨b,b1,b2,_⟩:=h.cut (k:=.i64) (a:=i) (b:=l.length) (by omega) (by omega) (by omega)
 have h1:=(rows_split hf l i).1
 have h2:=(rows_split hf l i).2
 refine ⟨a,b,?_,?_,?_,?_⟩
 ·rw [gslice_lo0 (k:=.i64) (fun x e=>⟨_,_,(Option.some.inj e).symm⟩)];exact a1
 ·simpa [h1] using a2
 ·rw [gslice_hi h (k:=.i64)];exact b1
 ·have:=b2
  simp only [Int.toNat_natCast] at this
  rw [h2,List.take_of_length_le (by rw [rows_len hf,List.length_drop];exact Nat.le_refl _)] at this
  exact this
theorem add_ok {H:GHeap} (hw:H.wf) {v:Value} {L:List Rg} (hL:RgR H v L) (hl:L.length≤1048576) (r:Rg):
 ∃ w H',gev G 45 [v,rgV r] H=some (w,H')∧(Same H H'∧RgR H' w (insF r L)∧(w=v∧insF r L=L∨OS 7 7 H H' w (insF r L).length ((insF r L).flatMap rgC))):=by
 refine gev_GW (f:=45) rfl fun Post hPost=>?_
 have hlim:=hw.1
 have hsl:=hL.rd.isSl
 simp only [frameOf,Nat.reduceAdd]
 repeat' (first|refine zz2 @g45.eq_1 @RG ?_|(refine zh (fun hc=>?_) (fun hc=>?_)<;>try simp only [yL] at hc))
 have hS1:Same H (H.add (some (.cells (rgC r) 0 true))):=(Same.refl hw).add _
 have m3:(H.add (some (.cells (rgC r) 0 true))).mine H.len=some (rgC r,0):=mine_add_eq rfl hlim
 generalize H.add (some (.cells (rgC r) 0 true))=H1 at *
 have hw1:=hS1.wf
 have hlim1:=hw1.1
 have hL1:RgR H1 v L:=GArg1.same hL hw hS1
 have q3:=rd_mine m3
 have p3:H1.rdn H.len 0 7=some (rgV r):=rdn_mine m3 rfl
 refine GW_loop (fun k fr K=>∃ i:Nat,k=L.length - i∧i≤L.length∧fr.get 0=some (v)∧fr.get 3=some (.pointer (some ⟨H.len,0,none⟩))∧fr.get 5=some (.int .i64 i)∧K=H1∧∀ j,j < i→ltN L[j]!.nm r.nm=true) ?_ L.length ?_
 case refine_2=>
  refine ⟨0,rfl,by omega,?_⟩
  simp only [↓yG,Nat.reduceEqDiff,↓reduceIte,Int.natCast_add,Int.cast_ofNat_Int,Int.natCast_zero,true_and,and_true,Option.some.injEq,Value.int.injEq]
  intro j hj;omega
 rintro k fr K ⟨i,rfl,hi,f0,f3,f5,rfl,hlt⟩ J hJ
 have e0:i < L.length→K.rd (blk v) (ofs v+i * 7)=some (.string (strB L[i]!.nm)):=fun h=>by have:=hL1.row h (c:=0) (by decide);rwa [Nat.add_zero] at this
 have q30:=q3 0
 rw [rgC_0] at q30
 have hle:(Op.bytesLess (strB L[i]!.nm).toList (strB r.nm).toList)=ltN L[i]!.nm r.nm:=rfl
 by_cases hA:i < L.length∧ltN L[i]!.nm r.nm=true
 ·obtain ⟨hi1,h1⟩:=hA
  have d0:decide ((i:Int) < L.length)=true:=decide_eq_true (by omega)
  have e0:=e0 hi1
  rw [h1] at hle
  repeat' (first|(exfalso;omega)|refine zz11 @g45.eq_1 @f0 @f3 @f5 hsl.len hsl.ix @d0 @e0 @q30 @gb_lssS @hle ?_|(refine zh (fun hc=>?_) (fun hc=>?_)<;>try simp only [yL] at hc))
  refine hJ _ _ ⟨L.length - (i+1),by omega,i+1,rfl,by omega,?_⟩
  simp only [↓yG,Nat.reduceEqDiff,↓reduceIte,Int.natCast_add,Int.cast_ofNat_Int,Int.natCast_zero,true_and,and_true,Option.some.injEq,Value.int.injEq,f0,f3]
  intro j hj
  by_cases h:j=i
  ·rw [h];exact h1
  ·exact hlt j (by omega)
 have hins:=ins_at hi hlt
 by_cases hB:i < L.length∧L[i]!.nm=r.nm
 ·obtain ⟨hi1,h2⟩:=hB
  have h1:ltN L[i]!.nm r.nm=false:=by simpa using fun h=>hA ⟨hi1,h⟩
  have d0:decide ((i:Int) < L.length)=true:=decide_eq_true (by omega)
  have e0:=e0 hi1
  rw [h1] at hle
  have d2:decide (L[i]!.nm=r.nm)=true:=decide_eq_true h2
  repeat' (first|(exfalso;omega)|refine zz13 @g45.eq_1 @f0 @f3 @f5 hsl.len hsl.ix @d0 @e0 @q30 @gb_lssS @hle @gb_eqlB @d2 ?_|(refine zh (fun hc=>?_) (fun hc=>?_)<;>try simp only [yL] at hc))
  rw [drop_bangA hi1] at hins
  rw [h2] at h1
  simp only [insF,h1,h2,if_true,Bool.false_eq_true,if_false] at hins
  rw [← drop_bangA hi1,List.take_append_drop] at hins
  refine hPost _ _ ⟨hS1,by rw [hins];exact hL1,.inl ⟨rfl,hins⟩⟩
 have hins:insF r L=L.take i ++ ([r] ++ L.drop i):=by
  rw [hins]
  congr 1
  by_cases hi1:i < L.length
  ·rw [drop_bangA hi1]
   simp only [insF,if_neg (fun h=>hA ⟨hi1,h⟩),if_neg (fun h=>hB ⟨hi1,h⟩)]
   rfl
  ·rw [List.drop_eq_nil_of_le (by omega)];rfl
 by_cases hi1:i < L.length
 case' pos=>
  have h1:ltN L[i]!.nm r.nm=false:=by simpa using fun h=>hA ⟨hi1,h⟩
  have d0:decide ((i:Int) < L.length)=true:=decide_eq_true (by omega)
  have e0:=e0 hi1
  rw [h1] at hle
  have d2:decide (L[i]!.nm=r.nm)=false:=decide_eq_false fun h=>hB ⟨hi1,h⟩
 case' neg=>
  have d0:decide ((i:Int) < L.length)=false:=decide_eq_false (by omega)
  have d2:=hle
  clear e0
  have e0:=hle
 all_goals
  repeat' (first|(exfalso;omega)|refine zz13 @g45.eq_1 @f0 @f3 @f5 hsl.len hsl.ix @d0 @e0 @q30 @gb_lssS @hle @gb_eqlB @d2 ?_|(refine zh (fun hc=>?_) (fun hc=>?_)<;>try simp only [yL] at hc))
  obtain ⟨K1,hK1⟩:∃ K1,K1=K.add (some (.cells (zeros zRg 0) 7 true)):=⟨_,rfl⟩
  have hO0:OS 7 7 K K1 (.slice (some ⟨K.len,0,none⟩) 0 1) 0 []:=hK1 ▸ ⟨(Same.refl hw1).add _,⟨rfl,.inr ⟨_,_,rfl,.inr rfl,mine_add_eq rfl hlim1⟩⟩,.inr (Nat.le_refl _)⟩
  rw [← hK1]
  clear hK1
  obtain ⟨a,b,a1,a2,b1,b2⟩:=GArg1.parts rgC_len hL1 hi
  have ea:gslice (.sl 7) K1 v none (some (.int .i64 i)) none=some a:=(hL1.gslice_same hw1 hO0.same _ _ _).trans a1
  obtain ⟨wb,K2,e2,hO1,hB1⟩:=hO0.appN (by decide) (by decide) (GArg1.same a2 hw1 hO0.same) (b:=56) (by omega) (by omega)
  have m32:=keep_but hO0 hB1 _ _ _ (by decide) ((hO0.same.mine (mine_lt hw1 m3)).trans m3)
  have p32:K2.rdn H.len 0 7=some (rgV r):=rdn_mine m32 rfl
  obtain ⟨wc,K4,e4,hO2,hB2⟩:=hO1.app1 (by decide) (by decide) (news:=rgC r) rfl (b:=56) (by omega) (by omega)
  have hS3:Same K (K2.add (some (.cells (rgC r) 7 true))):=hO1.same.add _
  have eb:gslice (.sl 7) (K2.add (some (.cells (rgC r) 7 true))) v (some (.int .i64 i)) none none=some b:=(hL1.gslice_same hw1 hS3 _ _ _).trans b1
  obtain ⟨wd,K5,e5,hO3,_⟩:=hO2.appN (by decide) (by decide) (GArg1.same b2 hw1 hO2.same) (b:=56) (by omega) (by omega)
  have hlim2:=hO1.same.wf.1
  repeat' (first|refine zz11 @g45.eq_1 @f0 @f3 @f5 @ea @e2 @p32 @fill_rg @eb @e4 @e5 ?_|(refine zh (fun hc=>?_) (fun hc=>?_)<;>try simp only [yL] at hc))
  have hO:OS 7 7 K K5 wd (insF r L).length ((insF r L).flatMap rgC):=by
   rw [hins,List.flatMap_append,List.flatMap_append,List.length_append,List.length_append,List.length_take,List.length_drop,Nat.min_eq_left hi]
   simpa [Nat.add_assoc] using hO3
  exact hPost _ _ ⟨hS1.trans hO3.same,OwnG.arg hO.same.wf hO.own (.inr rfl),.inr (OS.weaken hO hS1)⟩
theorem add_own {H0 H H':GHeap} {v w:Value} {L L':List Rg} (hS:Same H H') (h:OS 7 7 H0 H v L.length (L.flatMap rgC)) (hc:w=v∧L'=L∨OS 7 7 H H' w L'.length (L'.flatMap rgC)):
 OS 7 7 H0 H' w L'.length (L'.flatMap rgC)∧∀ a ∈ idOf w,a ∈ idOf v∨H.len≤a:=by
 rcases hc with ⟨rfl,rfl⟩|hc
 ·exact ⟨h.later hS,fun a ha=>.inl ha⟩
 ·exact ⟨hc.weaken h.same,fun a ha=>.inr (hc.ids ha).1⟩
end Go.Gh
end
section
namespace Go.Gh
set_option linter.unusedSimpArgs false
set_option linter.unusedVariables false
set_option maxHeartbeats 4000000
open Go.RowKit
set_option maxRecDepth 4000
abbrev zEv:List Value:=[.int .i64 0,.int .i64 0,.int .i64 0,.string ⟨#[]⟩,.int .u8 0,.string ⟨#[]⟩,.slice none 0 0]
def rgO (R:List Rg) (e:Ev):Rg:=(findR R e.rg).getD dfl
def rgW (R:List Rg) (e:Ev):Rg:=rgP (topF (rgO R e) e.L.length) (rgO R e).al
def rgsF (R:List Rg) (E:List Ev):List Rg:=E.foldl (fun L e=>insF (rgW R e) L) []
theorem rgsF_snoc (R:List Rg) (E:List Ev) (e:Ev):rgsF R (E ++ [e])=insF (rgW R e) (rgsF R E):=by simp [rgsF]
theorem rgsF_len (R:List Rg) (E:List Ev):(rgsF R E).length≤E.length:=by
 rcases List.eq_nil_or_concat E with rfl|⟨E',e,rfl⟩
 ·simp [rgsF]
 ·rw [List.concat_eq_append,rgsF_snoc]
  have h1:=ins_len (r:=rgW R e) (rgsF R E')
  have h2:=rgsF_len R E'
  simp only [List.length_append,List.length_singleton];omega
termination_by E.length
theorem take_bang {α:Type} [Inhabited α] {l:List α} {j:Nat} (h:j < l.length):l.take (j+1)=l.take j ++ [l[j]!]:=by
 rw [List.take_succ_eq_append_getElem h,getElem!_pos l j h]
structure PlE (R:List Rg) (e:Ev):Prop where
 fd:findR R e.rg=some (rgO R e)
 pl:plcOk (rgO R e) (lensE e)
 sm:smG (rgO R e)
 n1:1≤e.L.length
 n4:e.L.length≤4
 top:0≤topF (rgO R e) e.L.length∧topF (rgO R e) e.L.length < 15
 al:1≤(rgO R e).al∧(rgO R e).al≤3
 tn:topF (rgO R e) e.L.length+e.L.length≤15
theorem ple_of {R:List Rg} {e:Ev} (hs:∀ r ∈ R,smG r) (h:evOk R e):PlE R e:=by
 obtain ⟨_,_,_,_,⟨h1,h4⟩,_,r,hf,hp⟩:=h
 have hO:rgO R e=r:=by rw [rgO,hf];rfl
 have hl:e.rows.length=e.L.length:=by simp [Ev.rows]
 have hsm:=findV_sm (n:=e.rg) hs
 rw [show findV R e.rg=(r,true) by unfold findV;rw [hf]] at hsm
 have hN:(e.rows.map lenF).length=e.L.length:=by rw [List.length_map,hl]
 have hk:=hp.2.1
 rw [hN] at hk
 rw [hl] at h1 h4
 have hu:(0≤r.t∧r.t≤14)∧(1≤r.h∧r.h≤15 - r.t)∧1≤r.al∧r.al≤3:=by
  rcases hp.1 with rfl|⟨_,a,b,_,_,c⟩
  ·simp [dfl]
  ·exact ⟨a,b,c⟩
 have ht:(0≤topF r e.L.length∧topF r e.L.length < 15)∧topF r e.L.length+e.L.length≤15:=by
  unfold topF
  split<;>omega
 rw [← hO] at hf hp hsm hu ht
 exact ⟨hO ▸ hf,hp,hsm,h1,h4,ht.1,hu.2.2,ht.2⟩
theorem RgR.nil {H:GHeap} (hw:H.wf):RgR H (.slice none 0 0) []:=OwnG.arg (u:=7) hw ⟨rfl,.inl ⟨rfl,rfl⟩⟩ (.inr rfl)
def accOk (d:Dc):Prop:=dcOk d∧rt2 d.rt∧∀ e ∈ d.E,e.o < 86400 * nmn d.rt
theorem accept_ok {H:GHeap} (hw:H.wf) {d:Dc} (hd:DcR H d) (hs:SmD d) (hE:d.E.length≤16):
 ∃ q H',gev G 35 [dcV d] H=some (q,H')∧∃ j e,q=.tuple #[.int .i64 j,e]∧ErrIs e (accOk d)∧Same H H':=by
 refine gev_GW (f:=35) rfl fun Post hPost=>?_
 have hlim:=hw.1
 have fd:=dc_cflat hd
 have hsl:=hd.ev.rd.rd.isSl
 have hbd:∀ {j n:Int} {H'},n≠0→Same H H'→¬ accOk d→Post (.tuple #[.int .i64 j,.int .i64 n]) H':=fun hn hS h=>hPost _ _ ⟨_,_,rfl,ErrIs.no hn h,hS⟩
 simp only [frameOf,Nat.reduceAdd]
 repeat' (first|refine zz3 @g35.eq_1 @RDc @fd ?_|(refine zh (fun hc=>?_) (fun hc=>?_)<;>try simp only [yL] at hc))
 have hS1:Same H (H.add (some (.cells (dcC d) 0 true))):=(Same.refl hw).add _
 have m1:(H.add (some (.cells (dcC d) 0 true))).mine H.len=some (dcC d,0):=mine_add_eq rfl hlim
 generalize H.add (some (.cells (dcC d) 0 true))=H1 at *
 refine zc0 (dcheck_ok hS1.wf (hd.later hw hS1) hs) fun r2 H2 hq=>?_
 obtain ⟨⟨n2,rfl,hn2⟩,hS12⟩:=hq
 have hS2:=hS1.trans hS12
 have m12:=(hS12.mine (mine_lt hS1.wf m1)).trans m1
 by_cases h2:n2=0
 case neg=>
  repeat' (first|refine zz1 @g35.eq_1 ?_|(refine zh (fun hc=>?_) (fun hc=>?_)<;>try simp only [yL] at hc))
  all_goals first|exact hbd h2 hS2 fun h=>h2 (hn2.2 h.1)|(exfalso;omega)
 have hok:=hn2.1 h2
 subst h2
 have q1:=rd_mine m12
 have hr:=hs.rt
 by_cases h3:rt2 d.rt
 case neg=>
  have h3':d.rt≠3∧d.rt≠5:=⟨fun h=>h3 (.inl h),fun h=>h3 (.inr h)⟩
  have d3:decide (¬ d.rt=3)=true:=decide_eq_true h3'.1
  have d5:decide (¬ d.rt=5)=true:=decide_eq_true h3'.2
  repeat' (first|refine zz5 @g35.eq_1 @RDc @q1 @d3 @d5 ?_|(refine zh (fun hc=>?_) (fun hc=>?_)<;>try simp only [yL] at hc))
  exact hbd (by decide) hS2 fun h=>h3 h.2.1
 have hp:∀ j,j < d.E.length→PlE d.R d.E[j]!:=fun j hj=>ple_of hs.R.2 (hok.2.2.1.2 j hj).1
 have k76:=day_ok h3
 have hw2:=hS2.wf
 have hlen2:H.len < H2.len:=mine_lt hw2 m12
 have d35:decide (¬ d.rt=3)=true∧decide (¬ d.rt=5)=false∨decide (¬ d.rt=3)=false:=by
  rcases h3 with h|h<;>simp [h]
 rcases d35 with ⟨d3,d5⟩|d3
 case' inr=>have d5:=d3
 all_goals
  repeat' (first|refine zz6 @g35.eq_1 @RDc @q1 @d3 @d5 hsl.len ?_|(refine zh (fun hc=>?_) (fun hc=>?_)<;>try simp only [yL] at hc))
  refine GW_loop (fun k fr H3=>∃ (j:Nat) (v:Value),k=d.E.length - j∧j≤d.E.length∧fr.get 1=some (.pointer (some ⟨H.len,0,none⟩))∧fr.get 5=some (v)∧fr.get 22=some (d.ev)∧fr.get 23=some (.int .i64 d.E.length)∧fr.get 24=some (.int .i64 j)∧Same H2 H3∧RgR H3 v (rgsF d.R (d.E.take j))∧∀ i,i < j→d.E[i]!.o < 86400 * nmn d.rt) ?_ d.E.length ?_
  rotate_left
  ·refine ⟨0,.slice none 0 0,by omega,by omega,?_⟩
   simp only [↓yG,Nat.reduceEqDiff,↓reduceIte,Int.natCast_add,Int.cast_ofNat_Int,Int.natCast_zero,true_and,and_true,Option.some.injEq,Value.int.injEq]
   exact ⟨Same.refl hw2,RgR.nil hw2,fun i hi=>by omega⟩
  rintro k fr H3 ⟨j,v,rfl,hj,f1,f5,f22,f23,f24,hS23,hv,hall⟩ J hJ
  have hS3:=hS2.trans hS23
  have hw3:=hS3.wf
  have hlim3:=hw3.1
  by_cases hj1:j < d.E.length
  case neg=>
   repeat' (first|(exfalso;omega)|refine zz6 @g35.eq_1 @f1 @f5 @f22 @f23 @f24 ?_|(refine zh (fun hc=>?_) (fun hc=>?_)<;>try simp only [yL] at hc))
   refine hPost _ _ ⟨_,_,rfl,ErrIs.yes ⟨hok,h3,fun e he=>?_⟩,hS3⟩
   obtain ⟨i,hi,rfl⟩:=List.getElem_of_mem he
   rw [← getElem!_pos d.E i hi]
   exact hall i (by omega)
  have hd3:=hd.later hw hS3
  have e1:=hd3.ev.rowN hj1
  have hT:=hd3.ev.at_ hj1
  have hse:=hs.E.2 _ (bang_mem hj1)
  have hpe:=hp j hj1
  have htk:=rgsF_snoc d.R (d.E.take j) d.E[j]!
  rw [← take_bang hj1] at htk
  have hvl:=rgsF_len d.R (d.E.take j)
  rw [List.length_take,Nat.min_eq_left hj] at hvl
  have hnx:d.E[j]!.o < 86400 * nmn d.rt→∀ i,i < j+1→d.E[i]!.o < 86400 * nmn d.rt:=fun h i hi=>by
   by_cases e:i=j
   ·subst e;exact h
   ·exact hall i (by omega)
  have hno:¬ d.E[j]!.o < 86400 * nmn d.rt→¬ accOk d:=fun h k=>h (k.2.2 _ (bang_mem hj1))
  generalize d.E[j]! =e at *
  have gse:=gsetn_ev (cs:=zEv) (e:=e) rfl hT.rd.flat
  obtain ⟨H4,hH4⟩:∃ H4,H4=(H3.add (some (.cells zEv 0 true))).put H3.len (.cells (evC e) 0 true):=⟨_,rfl⟩
  have hS34:Same H3 H4:=hH4 ▸ (Same.refl hw3).new _ _
  have m7:H4.mine H3.len=some (evC e,0):=by rw [hH4,mine_put_same (by rw [lim_add];exact hlim3)]
  have hHs:=hH4.symm
  clear hH4
  have hS24:=hS23.trans hS34
  have hS4:=hS3.trans hS34
  have m14:=(hS24.mine hlen2).trans m12
  have q1:=rd_mine m14
  have p1:H4.rdn H.len 0 8=some (dcV d):=rdn_mine m14 rfl
  have q7:=rd_mine m7
  have p7:H4.rdn H3.len 0 7=some (evV e):=rdn_mine m7 rfl
  by_cases ho:e.o < 86400 * nmn d.rt
  case neg=>
   have d9:decide (86400 * nmn d.rt≤e.o)=true:=decide_eq_true (by omega)
   repeat' (first|(exfalso;omega)|refine zz17 @g35.eq_1 @f1 @f5 @f22 @f23 @f24 hsl.ix @e1 @gse @hHs @RDc @RE @q1 @q7 @k76 @RK @d9 ?_|(refine zh (fun hc=>?_) (fun hc=>?_)<;>try simp only [yL] at hc))
   exact hbd (by decide) hS4 (hno ho)
  have d9:decide (86400 * nmn d.rt≤e.o)=false:=decide_eq_false (by omega)
  repeat' (first|(exfalso;omega)|refine zz19 @g35.eq_1 @f1 @f5 @f22 @f23 @f24 hsl.ix @e1 @gse @hHs @RDc @RE @q1 @q7 @k76 @RK @d9 @p1 @p7 ?_|(refine zh (fun hc=>?_) (fun hc=>?_)<;>try simp only [yL] at hc))
  refine zc5 @f1 @f5 @f22 @f23 @f24 (placed_ok hS4.wf (hd.later hw hS4) (hT.later hw3 hS34) hse hs.R.1 hpe.sm hpe.fd hpe.pl hpe.n1) fun r5 H5 hq=>?_
  obtain ⟨rfl,hS45⟩:=hq
  have k44:=region_ok hpe.top hpe.al
  repeat' (first|refine zz8 @g35.eq_1 @f1 @f5 @f22 @f23 @f24 @RK @k44 ?_|(refine zh (fun hc=>?_) (fun hc=>?_)<;>try simp only [yL] at hc))
  have hS25:=hS24.trans hS45
  refine zc5 @f1 @f5 @f22 @f23 @f24 (add_ok hS45.wf (GArg1.same hv hw3 (hS34.trans hS45)) (by omega) (rgW d.R e)) fun r6 H6 hq=>?_
  obtain ⟨hS56,hv6,_⟩:=hq
  rw [← htk] at hv6
  have hv6l:=rgsF_len d.R (d.E.take (j+1))
  rw [List.length_take] at hv6l
  have hsl6:=hv6.rd.isSl
  have d16:decide ((16:Int) < (rgsF d.R (d.E.take (j+1))).length)=false:=decide_eq_false (by omega)
  repeat' (first|refine zz8 @g35.eq_1 @f1 @f5 @f22 @f23 @f24 hsl6.len @d16 ?_|(refine zh (fun hc=>?_) (fun hc=>?_)<;>try simp only [yL] at hc))
  refine hJ _ _ ⟨d.E.length - (j+1),by omega,j+1,r6,rfl,by omega,?_⟩
  simp only [↓yG,Nat.reduceEqDiff,↓reduceIte,Int.natCast_add,Int.cast_ofNat_Int,Int.natCast_zero,true_and,and_true,Option.some.injEq,Value.int.injEq,f1,f22,f23]
  exact ⟨hS25.trans hS56,hv6,hnx ho⟩
end Go.Gh
end
section
namespace Go.Gh
set_option linter.unusedSimpArgs false
set_option linter.unusedVariables false
set_option maxHeartbeats 4000000
open Go.RowKit
set_option maxRecDepth 4000
abbrev zDc:List Value:=[.string ⟨#[]⟩,.string ⟨#[]⟩,.int .u8 0,.bool false,.int .i64 0,.slice none 0 0,.slice none 0 0,.slice none 0 0]
structure EvO (H0 H:GHeap) (v:Value) (E:List Ev):Prop where
 own:OS 7 7 H0 H v E.length (E.flatMap evC)
 rows:∀ e ∈ E,TO H0 H e.v e.L
theorem OS.argN {s n:Nat} {H0 H:GHeap} {v:Value} {xs:List Value} (h:OS s s H0 H v n xs) (hs:s≠257∧s≠258):GArg1 H s v n xs:=OwnG.arg h.same.wf h.own (.inr (by simp [usz,hs.1,hs.2]))
theorem EvO.evr {H0 H:GHeap} {v:Value} {E:List Ev} (h:EvO H0 H v E):EvR H v E:=⟨h.own.argN (by decide),fun e he=>(h.rows e he).tr⟩
theorem EvO.later {H0 H H':GHeap} {v:Value} {E:List Ev} (h:EvO H0 H v E) (hs:Same H H'):EvO H0 H' v E:=⟨h.own.later hs,fun e he=>(h.rows e he).later hs⟩
theorem TO.weaken {H H1 H2:GHeap} {v:Value} {L:List VR'} (h:TO H1 H2 v L) (hs:Same H H1):TO H H2 v L:=⟨h.own.weaken hs,fun x hx=>OR.weaken (h.rows x hx) hs⟩
theorem TO.down {H H':GHeap} {v:Value} {L:List VR'} (hw:H.wf) (h:TO H.up H' v L):TO H (H'.down H.lim) v L:=⟨OS.down hw h.own,fun x hx=>OR.down hw (h.rows x hx)⟩
theorem OS.side {s u n s' u' m:Nat} {H0 H H':GHeap} {v w:Value} {xs ys:List Value} (h:OS s u H0 H w n xs) (hv:OS s' u' H0 H v m ys) (hu:u≠u') (hb:But (fun j=>j ∈ idOf v) H H'):OS s u H0 H' w n xs:=
 h.but hb (fun k hk ha=>by have:=(hv.ids ha).1;omega) fun a ha hc=>by
  have h1:=(h.ids ha).2.2
  rw [(hv.ids hc).2.2] at h1
  simp only [Option.some.injEq,Prod.mk.injEq] at h1
  exact hu h1.2.symm
theorem TO.side {s' u' m:Nat} {H0 H H':GHeap} {v w:Value} {L:List VR'} {ys:List Value} (h:TO H0 H w L) (hv:OS s' u' H0 H v m ys) (h1:1≠u') (h5:5≠u') (hb:But (fun j=>j ∈ idOf v) H H'):TO H0 H' w L:=
 ⟨h.own.side hv h1 hb,fun x hx=>OS.side (h.rows x hx) hv h5 hb⟩
theorem OS.cell {s u n i:Nat} {H0 H:GHeap} {v:Value} {xs c d:List Value} (h:OS s u H0 H v n xs) (hu:u≠0) (m:H.mine i=some (c,0)) (hi:H0.len≤i):OS s u H0 (H.put i (.cells d 0 true)) v n xs:=
 h.but ((But.refl (S:=fun j=>j=i) h.same.wf).put rfl (mine_lt h.same.wf m) _) (fun j hj e=>by omega) fun a ha e=>h.notin m hu (e ▸ ha)
theorem EvO.cell {i:Nat} {H0 H:GHeap} {v:Value} {E:List Ev} {c d:List Value} (h:EvO H0 H v E) (m:H.mine i=some (c,0)) (hi:H0.len≤i):EvO H0 (H.put i (.cells d 0 true)) v E:=
 ⟨h.own.cell (by decide) m hi,fun e he=>(h.rows e he).cell m hi⟩
theorem EvO.snoc {H0 H:GHeap} {v:Value} {E:List Ev} (h:EvO H0 H v E) {e:Ev} (he:TO H0 H e.v e.L) (hl:E.length≤1000):
 ∃ v' H',gapp 7 88 7 (H.add (some (.cells (evC e) 7 true))) v (.slice (some ⟨H.len,0,none⟩) 1 2)=some (v',H')∧EvO H0 H' v' (E ++ [e])∧But (fun j=>j ∈ idOf v) H H'∧∀ a ∈ idOf v',H.len≤a:=by
 obtain ⟨v',H',k,hO,hB⟩:=h.own.app1 (by decide) (by decide) (news:=evC e) rfl (b:=88) (by omega) (by omega)
 refine ⟨v',H',k,⟨?_,fun x hx=>?_⟩,hB,gapp_new h.own (by decide) (by decide) rfl (by omega) (by omega) k⟩
 ·rw [List.length_append,List.flatMap_append];simpa using hO
 ·have:TO H0 H x.v x.L:=by
   rcases List.mem_append.1 hx with hx|hx
   ·exact h.rows x hx
   ·rw [List.mem_singleton.1 hx];exact he
  exact this.side h.own (by decide) (by decide) hB
structure DcO (H0 H:GHeap) (x:Dc):Prop where
 rg:OS 7 7 H0 H x.rv x.R.length (x.R.flatMap rgC)
 ev:EvO H0 H x.ev x.E
 dis:∀ a ∈ idOf x.rv,¬ a ∈ idOf x.ev
 cv:x.cv=.slice none 0 0
 C:x.C=[]
theorem DcO.later {H0 H H':GHeap} {x:Dc} (h:DcO H0 H x) (hs:Same H H'):DcO H0 H' x:=⟨h.rg.later hs,h.ev.later hs,h.dis,h.cv,h.C⟩
theorem DcO.cell {i:Nat} {H0 H:GHeap} {x:Dc} {c d:List Value} (h:DcO H0 H x) (m:H.mine i=some (c,0)) (hi:H0.len≤i):DcO H0 (H.put i (.cells d 0 true)) x:=⟨h.rg.cell (by decide) m hi,h.ev.cell m hi,h.dis,h.cv,h.C⟩
theorem DcO.dcr {H0 H:GHeap} {x:Dc} (h:DcO H0 H x):DcR H x:=⟨h.rg.argN (by decide),h.ev.evr,by
 rw [h.cv,h.C];exact OwnG.arg (u:=8) h.rg.same.wf ⟨rfl,.inl ⟨rfl,rfl⟩⟩ (.inr rfl)⟩
theorem DcO.setR {H0 H H':GHeap} {x:Dc} {w:Value} {L:List Rg} (h:DcO H0 H x) (hS:Same H H') (hc:w=x.rv∧L=x.R∨OS 7 7 H H' w L.length (L.flatMap rgC)):DcO H0 H' {x with rv:=w,R:=L}:=by
 obtain ⟨h1,h2⟩:=add_own hS h.rg hc
 exact ⟨h1,h.ev.later hS,fun a ha hb=>(h2 a ha).elim (fun k=>h.dis a k hb) fun k=>by have:=(h.ev.own.ids hb).2.1;omega,h.cv,h.C⟩
theorem DcO.snoc {H0 H:GHeap} {x:Dc} (h:DcO H0 H x) {e:Ev} (he:TO H0 H e.v e.L) (hl:x.E.length≤1000):
 ∃ v' H',gapp 7 88 7 (H.add (some (.cells (evC e) 7 true))) x.ev (.slice (some ⟨H.len,0,none⟩) 1 2)=some (v',H')∧DcO H0 H' {x with ev:=v',E:=x.E ++ [e]}∧Keep 7 H H':=by
 obtain ⟨v',H',k,hE,hB,hn⟩:=h.ev.snoc he hl
 exact ⟨v',H',k,⟨h.rg.but hB (fun k hk ha=>by have:=(h.ev.own.ids ha).1;omega) h.dis,hE,fun a ha hb=>by have h1:=hn a hb;have h2:=(h.rg.ids ha).2.1;omega,h.cv,h.C⟩,keep_but h.ev.own hB⟩
end Go.Gh
end
