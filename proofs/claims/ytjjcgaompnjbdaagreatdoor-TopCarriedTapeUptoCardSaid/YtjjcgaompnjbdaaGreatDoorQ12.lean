/-
  Parts of the proof: walks of the ghost functions and the laws of what they compute. No condition.
-/
import Derived.Test.YtjjcgaompnjbdaaGreatDoorQ11
section
namespace Go.Gh
set_option linter.unusedSimpArgs false
set_option linter.unusedVariables false
set_option maxHeartbeats 4000000
open Go.RowKit
set_option maxRecDepth 4000
structure RedE (R:List Rg) (j:Nat) (e x:Ev):Prop where
 id:x.id=j+1
 i:x.i=e.i
 o:x.o=e.o
 rg:x.rg=(rgW R e).nm
 kd:x.kd=1
 sp:x.sp=[]
 rows:x.rows=e.rows.map bareF
structure RedD (d:Dc) (j:Nat) (x:Dc):Prop where
 ti:x.ti=d.ti
 la:x.la=d.la
 rt:x.rt=d.rt
 dr:x.dr=d.dr
 last:x.last=d.E.length
 R:x.R=rgsF d.R (d.E.take j)
 len:x.E.length=j
 E:∀ i,i < j→RedE d.R i d.E[i]! x.E[i]!
theorem gset_dc5 {x:Dc} {w:Value} {L:List Rg} (hf:flatV w=true):gset (dcC x) 5 w=some (dcC {x with rv:=w,R:=L}):=gset_ok (by simp [dcC]) hf
theorem gset_dc6 {x:Dc} {w:Value} {E:List Ev} (hf:flatV w=true):gset (dcC x) 6 w=some (dcC {x with ev:=w,E:=E}):=gset_ok (by simp [dcC]) hf
theorem fill_ev {e:Ev} (hf:∃ a n c,e.v=.slice a n c):fillL (zeros zEv 1) [(0,7,evV e)]=some (evC e):=by
 obtain ⟨id,i,o,rg,kd,sp,v,L⟩:=e
 obtain ⟨a,n,c,rfl⟩:=hf
 simp [fillL,zeros,evV,evC,Value.cells,flatV]
theorem fill_red {e:Ev} (hf:∃ a n c,e.v=.slice a n c) (hs:e.sp=[]):fillL zEv [(0,1,.int .i64 e.id),(1,2,s2 e.i e.o),(3,1,.string (strB e.rg)),(4,1,.int .u8 e.kd),(6,1,e.v)]=some (evC e):=by
 obtain ⟨id,i,o,rg,kd,sp,v,L⟩:=e
 obtain ⟨a,n,c,rfl⟩:=hf
 obtain rfl:=hs
 simp [fillL,s2,evC,Value.cells,flatV];rfl
theorem TO.sl {H0 H:GHeap} {v:Value} {L:List VR'} (h:TO H0 H v L):∃ a n c,v=.slice a n c:=by
 obtain ⟨a,gc,e,_⟩:=h.tr.rd.sl
 exact ⟨_,_,_,e⟩
theorem getE_snoc {E:List Ev} {e:Ev} {i:Nat} (h:i < E.length):(E ++ [e])[i]! =E[i]!:=by
 rw [getElem!_pos _ i (by rw [List.length_append];omega),getElem!_pos E i h,List.getElem_append_left h]
theorem getE_last {E:List Ev} {e:Ev}:(E ++ [e])[E.length]! =e:=by
 rw [getElem!_pos _ _ (by simp)];simp
theorem rdn_ev2m {H:GHeap} {i:Nat} {e:Ev} {u:Nat} (h:H.mine i=some (evC e,u)):H.rdn i 1 2=some (s2 e.i e.o):=by
 have:=(mine_obj h).2
 simp only [GHeap.rdn,GHeap.cs,this];rfl
theorem reduce_ok {H:GHeap} (hw:H.wf) {d:Dc} (hd:DcR H d) (hs:SmD d) (hok:dcOk d) (hE:d.E.length≤16):
 ∃ q H',gev G 13 [dcV d] H=some (q,H')∧∃ x,q=dcV x∧DcO H H' x∧RedD d d.E.length x:=by
 refine gev_GW (f:=13) rfl fun Post hPost=>?_
 have hlim:=hw.1
 have fd:=dc_cflat hd
 have hsl:=hd.ev.rd.rd.isSl
 simp only [frameOf,Nat.reduceAdd]
 repeat' (first|refine zz3 @g13.eq_1 @RDc @fd ?_|(refine zh (fun hc=>?_) (fun hc=>?_)<;>try simp only [yL] at hc))
 obtain ⟨H1,hH1⟩:∃ H1,H1=(H.add (some (.cells (dcC d) 0 true))).add (some (.cells zDc 0 true)):=⟨_,rfl⟩
 have hSa:Same H (H.add (some (.cells (dcC d) 0 true))):=(Same.refl hw).add _
 have hS1:Same H H1:=hH1 ▸ hSa.add _
 have m1:H1.mine H.len=some (dcC d,0):=by rw [hH1];exact (((Same.refl hSa.wf).add _).mine (by rw [len_add];omega)).trans (mine_add_eq rfl hlim)
 have m2:H1.mine (H.len+1)=some (zDc,0):=by rw [hH1];exact mine_add_eq (by rw [len_add]) (by rw [lim_add];omega)
 rw [← hH1]
 clear hH1
 have p1:H1.rdn H.len 0 8=some (dcV d):=rdn_mine m1 rfl
 repeat' (first|refine zz3 @g13.eq_1 @RDc @p1 ?_|(refine zh (fun hc=>?_) (fun hc=>?_)<;>try simp only [yL] at hc))
 refine zc0 (dcheck_ok hS1.wf (hd.later hw hS1) hs) fun r2 H2 hq=>?_
 obtain ⟨⟨n2,rfl,hn2⟩,hS12⟩:=hq
 obtain rfl:=hn2.2 hok
 have hS2:=hS1.trans hS12
 have m1:=(hS12.mine (mine_lt hS1.wf m1)).trans m1
 have m2:=(hS12.mine (mine_lt hS1.wf m2)).trans m2
 have q1:=rd_mine m1
 have hw2:=hS2.wf
 have hlim2:=hw2.1
 obtain ⟨x0,hx0⟩:∃ x0:Dc,x0=⟨d.ti,d.la,d.rt,d.dr,d.E.length,.slice none 0 0,[],.slice none 0 0,[],.slice none 0 0,[]⟩:=⟨_,rfl⟩
 obtain ⟨H3,hH3⟩:∃ H3,H3=(H2.add (some (.cells zDc 0 true))).put H2.len (.cells (dcC x0) 0 true):=⟨_,rfl⟩
 have hS23:Same H2 H3:=hH3 ▸ (Same.refl hw2).new _ _
 have m3:H3.mine H2.len=some (dcC x0,0):=by rw [hH3,mine_put_same (by rw [lim_add];exact hlim2)]
 have hHs:(H2.add (some (.cells zDc 0 true))).put H2.len (.cells [.string (strB d.ti),.string (strB d.la),.int .u8 d.rt,.bool d.dr,.int .i64 d.E.length,.slice none 0 0,.slice none 0 0,.slice none 0 0] 0 true)=H3:=by rw [hH3,hx0];rfl
 clear hH3
 have hS3:=hS2.trans hS23
 have m13:=(hS23.mine (mine_lt hw2 m1)).trans m1
 have m23:=(hS23.mine (mine_lt hw2 m2)).trans m2
 have q13:=rd_mine m13
 have hw3:=hS3.wf
 have hn3:H.len≤H2.len:=hS2.len
 repeat' (first|refine zz6 @g13.eq_1 @RDc @q1 hsl.len @hHs @q13 ?_|(refine zh (fun hc=>?_) (fun hc=>?_)<;>try simp only [yL] at hc))
 have hp:∀ j,j < d.E.length→PlE d.R d.E[j]!:=fun j hj=>ple_of hs.R.2 (hok.2.2.1.2 j hj).1
 have hne1:H2.len≠H.len:=fun h=>by have:=mine_lt hw2 m1;omega
 have hne2:H2.len≠H.len+1:=fun h=>by have:=mine_lt hw2 m2;omega
 generalize H2.len=i3 at *
 refine GW_loop (fun k fr K=>∃ (j:Nat) (x:Dc),k=d.E.length - j∧j≤d.E.length∧fr.get 1=some (.pointer (some ⟨H.len,0,none⟩))∧fr.get 2=some (.pointer (some ⟨H.len+1,0,none⟩))∧fr.get 3=some (.pointer (some ⟨i3,0,none⟩))∧fr.get 24=some (d.ev)∧fr.get 25=some (.int .i64 d.E.length)∧fr.get 26=some (.int .i64 j)∧DcO H K x∧RedD d j x∧K.mine H.len=some (dcC d,0)∧K.mine (H.len+1)=some (zDc,0)∧K.mine i3=some (dcC x,0)) ?_ d.E.length ?_
 rotate_left
 ·refine ⟨0,x0,by omega,by omega,?_⟩
  simp only [↓yG,Nat.reduceEqDiff,↓reduceIte,Int.natCast_add,Int.cast_ofNat_Int,Int.natCast_zero,true_and,and_true,Option.some.injEq,Value.int.injEq]
  have hR:RedD d 0 x0:=by subst hx0;exact ⟨rfl,rfl,rfl,rfl,rfl,rfl,rfl,fun i hi=>by omega⟩
  have hO:DcO H H3 x0:=by subst hx0;exact ⟨OS.nil hS3,⟨OS.nil hS3,fun e he=>by cases he⟩,fun a ha=>by simp [idOf] at ha,rfl,rfl⟩
  exact ⟨hO,hR,m13,m23,m3⟩
 rintro k fr K ⟨j,x,rfl,hj,f1,f2,f3,f24,f25,f26,hO,hR,m1,m2,m3⟩ J hJ
 have hS:=hO.rg.same
 have hwK:=hS.wf
 have hlimK:=hwK.1
 by_cases hj1:j < d.E.length
 case neg=>
  obtain rfl:j=d.E.length:=by omega
  have p3:K.rdn i3 0 8=some (dcV x):=rdn_mine m3 rfl
  have gs:gsetn zDc 0 8 (dcV x)=some (dcC x):=gsetn_all rfl rfl (by
   have h1:=hO.rg.flat
   have h2:=hO.ev.own.flat
   have h3:flatV x.cv=true:=by rw [hO.cv];rfl
   simp [flatV_int,flatV_str,flatV_bool,h1,h2,h3])
  repeat' (first|(exfalso;omega)|refine zz11 @g13.eq_1 @f1 @f2 @f3 @f24 @f25 @f26 @p3 @m2 @gs @RDc ?_|(refine zh (fun hc=>?_) (fun hc=>?_)<;>try simp only [yL] at hc))
  exact hPost _ _ ⟨x,rfl,hO.cell m2 (Nat.le_succ _),hR⟩
 have hi2:=mine_lt hwK m2
 have hi3:=mine_lt hwK m3
 have hdK:=hd.later hw hS
 have e1:=hdK.ev.rowN hj1
 have hT:=hdK.ev.at_ hj1
 have hT0:=hd.ev.at_ hj1
 have hse:=hs.E.2 _ (bang_mem hj1)
 have hpe:=hp j hj1
 have htk:=rgsF_snoc d.R (d.E.take j) d.E[j]!
 rw [← take_bang hj1] at htk
 have hRE:∀ i e,i < j+1→(i < j→RedE d.R i d.E[i]! e)→(i=j→RedE d.R j d.E[j]! e)→RedE d.R i d.E[i]! e:=fun i e hi h1 h2=>by
  by_cases h:i=j
  ·subst h;exact h2 rfl
  ·exact h1 (by omega)
 generalize d.E[j]! =e at *
 have gse:=gsetn_ev (cs:=zEv) (e:=e) rfl hT.rd.flat
 obtain ⟨H4,hH4⟩:∃ H4,H4=(K.add (some (.cells zEv 0 true))).put K.len (.cells (evC e) 0 true):=⟨_,rfl⟩
 have hS4:Same K H4:=hH4 ▸ (Same.refl hwK).new _ _
 have m5:H4.mine K.len=some (evC e,0):=by rw [hH4,mine_put_same (by rw [lim_add];exact hlimK)]
 have hHs:=hH4.symm
 clear hH4
 have p1:H4.rdn H.len 0 8=some (dcV d):=rdn_mine ((hS4.mine (by omega)).trans m1) rfl
 have p5:H4.rdn K.len 0 7=some (evV e):=rdn_mine m5 rfl
 repeat' (first|(exfalso;omega)|refine zz13 @g13.eq_1 @f1 @f2 @f3 @f24 @f25 @f26 hsl.ix @e1 @gse @hHs @p1 @p5 ?_|(refine zh (fun hc=>?_) (fun hc=>?_)<;>try simp only [yL] at hc))
 refine zc6 @f1 @f2 @f3 @f24 @f25 @f26 (placed_ok hS4.wf (hdK.later hwK hS4) (hT.later hwK hS4) hse hs.R.1 hpe.sm hpe.fd hpe.pl hpe.n1) fun r5 H5 hq=>?_
 obtain ⟨rfl,hS45⟩:=hq
 have k44:=region_ok hpe.top hpe.al
 have hg:rgP (topF (rgO d.R e) e.L.length) (rgO d.R e).al=rgW d.R e:=rfl
 rw [hg] at k44
 generalize hgg:rgW d.R e=g at *
 have hw5:=hS45.wf
 have hlim5:=hw5.1
 obtain ⟨H6,hH6⟩:∃ H6,H6=(H5.add (some (.cells zRg 0 true))).put H5.len (.cells (rgC g) 0 true):=⟨_,rfl⟩
 have hS56:Same H5 H6:=hH6 ▸ (Same.refl hw5).new _ _
 have m6:H6.mine H5.len=some (rgC g,0):=by rw [hH6,mine_put_same (by rw [lim_add];exact hlim5)]
 have hHs6:=hH6.symm
 clear hH6
 have hS46:=hS45.trans hS56
 have hSK6:=hS4.trans hS46
 have p6:H6.rdn H5.len 0 7=some (rgV g):=rdn_mine m6 rfl
 have m36:=(hSK6.mine hi3).trans m3
 have q3:=rd_mine m36
 have m56:=(hS46.mine (mine_lt hS4.wf m5)).trans m5
 have hO6:=hO.later hSK6
 repeat' (first|refine zz14 @g13.eq_1 @f1 @f2 @f3 @f24 @f25 @f26 @RK @k44 @RG @hHs6 @p6 @q3 @RDc ?_|(refine zh (fun hc=>?_) (fun hc=>?_)<;>try simp only [yL] at hc))
 refine zc6 @f1 @f2 @f3 @f24 @f25 @f26 (add_ok hSK6.wf (hO6.rg.argN (by decide)) (by rw [hR.R];have:=rgsF_len d.R (d.E.take j);rw [List.length_take] at this;omega) g) fun w7 H7 hq=>?_
 obtain ⟨hS67,_,hc⟩:=hq
 have hO7:=hO6.setR hS67 hc
 have hw7:=hS67.wf
 have m37:=(hS67.mine (mine_lt hSK6.wf m36)).trans m36
 have m57:=(hS67.mine (mine_lt hSK6.wf m56)).trans m56
 have m67:=(hS67.mine (mine_lt hSK6.wf m6)).trans m6
 have gs5:=gset_dc5 (x:=x) (w:=w7) (L:=insF g x.R) hO7.rg.flat
 obtain ⟨x1,hx1⟩:∃ x1:Dc,x1={x with rv:=w7,R:=insF g x.R}:=⟨_,rfl⟩
 rw [← hx1] at hO7 gs5
 obtain ⟨H8,hH8⟩:∃ H8,H8=H7.put i3 (.cells (dcC x1) 0 true):=⟨_,rfl⟩
 have hO8:DcO H H8 x1:=hH8 ▸ hO7.cell m37 hn3
 have hSK7:=hSK6.trans hS67
 have hn5:K.len≤H5.len:=Nat.le_trans hS4.len hS45.len
 have m38:H8.mine i3=some (dcC x1,0):=by rw [hH8,mine_put_same (mine_obj m37).1]
 have m58:H8.mine K.len=some (evC e,0):=by rw [hH8,mine_put_ne (by omega)];exact m57
 have m68:H8.mine H5.len=some (rgC g,0):=by rw [hH8,mine_put_ne (by omega)];exact m67
 have m18:H8.mine H.len=some (dcC d,0):=by rw [hH8,mine_put_ne (by omega)];exact (hSK7.mine (by omega)).trans m1
 have m28:H8.mine (H.len+1)=some (zDc,0):=by rw [hH8,mine_put_ne (by omega)];exact (hSK7.mine (by omega)).trans m2
 have hHs8:=hH8.symm
 clear hH8
 have q38:=rd_mine m38
 have q58:=rd_mine m58
 have q68:=rd_mine m68
 have p58:=rdn_ev2m m58
 have hS8:=hO8.rg.same
 have hw8:=hS8.wf
 repeat' (first|refine zz17 @g13.eq_1 @f1 @f2 @f3 @f24 @f25 @f26 @m37 @gs5 @hHs8 @q38 @q58 @q68 @p58 @RDc @RE @RG ?_|(refine zh (fun hc=>?_) (fun hc=>?_)<;>try simp only [yL] at hc))
 refine zm6 @f1 @f2 @f3 @f24 @f25 @f26 (bare_ok (wf_up hw8) (hT0.later hw hS8).up hpe.n4 hse.2.2.2.2) fun r9 H9 hq=>?_
 obtain ⟨LL,hTO,hLL⟩:=hq
 have hTO:=hTO.down hw8
 generalize H9.down H8.lim=H10 at *
 have hS810:=hTO.own.same
 obtain ⟨e',he'⟩:∃ e':Ev,e'=⟨j+1,e.i,e.o,g.nm,1,[],r9,LL⟩:=⟨_,rfl⟩
 have ff:fillL zEv [(0,1,.int .i64 ((j:Int)+1)),(1,2,s2 e.i e.o),(3,1,.string (strB g.nm)),(4,1,.int .u8 1),(6,1,r9)]=some (evC e'):=by rw [he'];exact fill_red (e:=⟨j+1,e.i,e.o,g.nm,1,[],r9,LL⟩) hTO.sl rfl
 have hev:=(evV_eq e').symm
 have fe:=fill_ev (e:=e') (by rw [he'];exact hTO.sl)
 have hxE:x1.E=x.E:=by rw [hx1]
 obtain ⟨v',H11,e11,hO11,hK⟩:=(hO8.later hS810).snoc (e:=e') (by rw [he'];exact hTO.weaken hS8) (by rw [hxE,hR.len];omega)
 have m310:=(hS810.mine (mine_lt hw8 m38)).trans m38
 have m311:=hK _ _ _ (by decide) m310
 have m111:=hK _ _ _ (by decide) ((hS810.mine (mine_lt hw8 m18)).trans m18)
 have m211:=hK _ _ _ (by decide) ((hS810.mine (mine_lt hw8 m28)).trans m28)
 have gs6:=gset_dc6 (x:=x1) (w:=v') (E:=x1.E ++ [e']) hO11.ev.own.flat
 have hlim10:=hS810.wf.1
 repeat' (first|refine zz13 @g13.eq_1 @f1 @f2 @f3 @f24 @f25 @f26 @ff @hev @fe @e11 @m311 @gs6 ?_|(refine zh (fun hc=>?_) (fun hc=>?_)<;>try simp only [yL] at hc))
 refine hJ _ _ ⟨d.E.length - (j+1),by omega,j+1,{x1 with ev:=v',E:=x1.E ++ [e']},rfl,by omega,?_⟩
 simp only [↓yG,Nat.reduceEqDiff,↓reduceIte,Int.natCast_add,Int.cast_ofNat_Int,Int.natCast_zero,true_and,and_true,Option.some.injEq,Value.int.injEq,f1,f2,f3,f24,f25]
 refine ⟨hO11.cell m311 hn3,?_,?_,?_,mine_put_same (mine_obj m311).1⟩
 ·subst hx1
  refine ⟨hR.ti,hR.la,hR.rt,hR.dr,hR.last,by rw [htk,← hR.R],by simp [hR.len],fun i hi=>hRE i _ hi (fun h=>?_) fun h=>?_⟩
  ·show RedE d.R i d.E[i]! (x.E ++ [e'])[i]!
   rw [getE_snoc (by rw [hR.len];exact h)];exact hR.E i h
  ·show RedE d.R j e (x.E ++ [e'])[i]!
   rw [h,← hR.len,getE_last,he']
   exact ⟨by rw [hR.len],rfl,rfl,by rw [hgg],rfl,rfl,by show LL.map (·.2)=(e.L.map (·.2)).map bareF;rw [hLL,List.map_map];rfl⟩
 ·rw [mine_put_ne (by omega)];exact m111
 ·rw [mine_put_ne (by omega)];exact m211
end Go.Gh
end
section
namespace Go.Gh
set_option linter.unusedSimpArgs false
set_option linter.unusedVariables false
set_option maxHeartbeats 4000000
open Go.RowKit
set_option maxRecDepth 4000
def evB (d:Dc) (j:Nat):Bk:=⟨j,0,lbF (nmn d.rt) d.E[j]!.i,lbF (nmn d.rt) d.E[j]!.o,topF (rgO d.R d.E[j]!) d.E[j]!.L.length,(rgO d.R d.E[j]!).al,[]⟩
def txE (e:Ev):List UInt8:=bU (txtB false e.rows)
def blE (d:Dc) (n:Nat):List Bk:=(List.range n).flatMap fun j=>splF (evB d j) (txE d.E[j]!)
def hdE (d:Dc) (j:Nat) (n:Int):Hd:=⟨d.rt,d.la,d.ti,n,d.E.length,lb0,if j=0 then lb0 else lbF (nmn d.rt) d.E[0]!.i,15,32⟩
def encB (d:Dc):List UInt8:=hdB (hdE d d.E.length (blE d d.E.length).length) ++ fmB (blE d d.E.length)
theorem blE_succ (d:Dc) (j:Nat):blE d (j+1)=blE d j ++ splF (evB d j) (txE d.E[j]!):=by
 simp [blE,List.range_succ]
structure AccE (d:Dc) (j:Nat):Prop where
 pl:PlE d.R d.E[j]!
 i0:0≤d.E[j]!.i
 i1:d.E[j]!.i < 86400 * nmn d.rt
 o0:0≤d.E[j]!.o
 o1:d.E[j]!.o < 86400 * nmn d.rt
 G:∀ x ∈ d.E[j]!.L,RowG x.2
 bk:BkOk (evB d j)
 t0:txE d.E[j]!≠[]
 tl:(txE d.E[j]!).length≤500
 tb:∀ c ∈ txE d.E[j]!,c≠143
 ti:ints .u8 (txtB false d.E[j]!.rows)=u8s (txE d.E[j]!)
def colD (d:Dc):Prop:=∀ e ∈ d.E,∀ x ∈ e.L,∀ r ∈ x.2,0≤r.s.c
theorem acc_ev {d:Dc} (hs:SmD d) (hc:colD d) (h:accOk d) (hE:d.E.length≤16) {j:Nat} (hj:j < d.E.length):AccE d j:=by
 obtain ⟨hok,h2,h3⟩:=h
 have hm:=bang_mem hj
 have h1:=(hok.2.2.1.2 j hj).1
 have hp:=ple_of hs.R.2 h1
 obtain ⟨_,⟨t1,t2,_⟩,_,_,_,hr,_⟩:=h1
 have h3:=h3 _ hm
 have hn:=rt2_nm h2
 have hG:∀ x ∈ d.E[j]!.L,RowG x.2:=fun x hx=>⟨hr _ (List.mem_map.2 ⟨x,hx,rfl⟩),fun r hr=>hc _ hm x hx r hr⟩
 have hGr:∀ l ∈ d.E[j]!.rows,RowG l:=fun l hl=>by
  obtain ⟨x,hx,rfl⟩:=List.mem_map.1 hl
  exact hG x hx
 have hL:d.E[j]!.rows.length=d.E[j]!.L.length:=by simp [Ev.rows]
 have hne:d.E[j]!.rows≠[]:=fun e=>by rw [e] at hL;have:=hp.n1;simp only [List.length_nil] at hL;omega
 have htl:=txtB_len d.E[j]!.rows false hGr
 have hn4:=hp.n4
 have hin:=txtB_inR (b:=false) hGr
 refine ⟨hp,t1,by omega,by omega,h3,hG,⟨by simp only [evB];omega,by simp [evB],lbOk_B hn (lbF_ok hn t1 (by omega)).1,lbOk_B hn (lbF_ok hn (by omega) h3).1,hp.top,hp.al,by simp [evB],by simp [evB]⟩,?_,?_,?_,bU_ints hin⟩
 ·intro e
  have:=congrArg List.length e
  rw [txE,bU_len] at this
  exact txtB_pos hne hGr (List.eq_nil_of_length_eq_zero this)
 ·rw [txE,bU_len];omega
 ·intro c hc' e
  obtain ⟨n,hn',rfl⟩:=List.mem_map.1 hc'
  have h5:=txtB_tb _ _ hGr n hn'
  have h6:((UInt8.ofNat n.toNat).toNat:Int)=n:=by
   have:=h5.2.1
   have:=h5.1
   rw [UInt8.toNat_ofNat'];omega
  rw [e] at h6
  exact h5.2.2 h6.symm
theorem BO.app {H0 H:GHeap} {v x:Value} {L M:List VB} (h:BO H0 H v L) (hx:BO H0 H x M) (hl:L.length+M.length < 100000):
 ∃ v' H',gapp 18 144 18 H v x=some (v',H')∧BO H0 H' v' (L ++ M)∧Keep 18 H H':=by
 obtain ⟨v',H',e,hO,hB⟩:=h.own.appN (by decide) (by decide) hx.rd.rd (b:=144) (by omega) (by omega)
 refine ⟨v',H',e,⟨?_,fun y hy=>?_⟩,keep_but h.own hB⟩
 ·rw [List.length_append,BkL,List.flatMap_append];exact hO
 ·exact OS.side ((List.mem_append.1 hy).elim (h.rows y) (hx.rows y)) h.own (by decide) hB
theorem BO.cell {i:Nat} {H0 H:GHeap} {v:Value} {L:List VB} {c d:List Value} (h:BO H0 H v L) (m:H.mine i=some (c,0)) (hi:H0.len≤i):BO H0 (H.put i (.cells d 0 true)) v L:=
 ⟨h.own.cell (by decide) m hi,fun x hx=>(h.rows x hx).cell (by decide) m hi⟩
theorem bk_i {v:Value} {b:Bk} {x:Lb}:gsetn (bkC v b) 4 5 (lbV x)=some (bkC v {b with i:=x}):=by simp [gsetn,lbV,bkC,flatV]
theorem bk_o {v:Value} {b:Bk} {x:Lb}:gsetn (bkC v b) 9 5 (lbV x)=some (bkC v {b with o:=x}):=by simp [gsetn,lbV,bkC,flatV]
theorem hd_fi {h:Hd} {x:Lb}:gsetn (hdC h) 10 5 (lbV x)=some (hdC {h with fi:=x}):=by simp [gsetn,lbV,hdC,flatV]
theorem hd_bl {h:Hd} {n:Int}:gset (hdC h) 3 (.int .i64 n)=some (hdC {h with bl:=n}):=gset_ok (by simp [hdC]) rfl
theorem bk_im {H:GHeap} {i u:Nat} {v:Value} {b:Bk} (h:H.mine i=some (bkC v b,u)):H.rdn i 4 5=some (lbV b.i):=by
 have:=(mine_obj h).2
 simp only [GHeap.rdn,GHeap.cs,this];rfl
end Go.Gh
end
section
namespace Go.Gh
set_option linter.unusedSimpArgs false
set_option linter.unusedVariables false
set_option maxHeartbeats 4000000
open Go.RowKit
set_option maxRecDepth 4000
abbrev zHd:List Value:=[.int .u8 0,.string ⟨#[]⟩,.string ⟨#[]⟩,.int .i64 0,.int .i64 0,.int .i64 0,.int .i64 0,.int .i64 0,.int .i64 0,.bool false,.int .i64 0,.int .i64 0,.int .i64 0,.int .i64 0,.bool false,.int .i64 0,.int .i64 0]
theorem REn:type_of% (And.intro (And.intro RDc RE) (And.intro RBk RK)):=And.intro (And.intro RDc RE) (And.intro RBk RK)
theorem spl_len {d:Dc} {j:Nat} (h:AccE d j):1≤pcs (txE d.E[j]!)∧pcs (txE d.E[j]!)≤5:=by
 have h1:=h.tl
 have h2:=List.length_pos_iff.2 h.t0
 unfold pcs;omega
theorem blE_len {d:Dc} (h:∀ j,j < d.E.length→AccE d j):∀ j,j≤d.E.length→j≤(blE d j).length∧(blE d j).length≤5 * j
 |0,_=>by simp [blE]
 |j+1,hj=>by
  have ih:=blE_len h j (by omega)
  have h1:=spl_len (h j (by omega))
  rw [blE_succ,List.length_append,splF_len];omega
theorem blE_ok {d:Dc} (h:∀ j,j < d.E.length→AccE d j) {j:Nat} (hj:j≤d.E.length):∀ b ∈ blE d j,BkOk b∧b.t≠[]:=fun b hb=>by
 obtain ⟨i,hi,hb⟩:=List.mem_flatMap.1 hb
 have hi:=List.mem_range.1 hi
 obtain ⟨k,hk,rfl⟩:=List.mem_map.1 hb
 have hk:=List.mem_range.1 hk
 have a:=h i (by omega)
 have s:=spX_ok a.bk (by have:=a.tl;omega) a.tb hk
 exact ⟨s.ok,s.ne⟩
theorem hdE_ok {d:Dc} (ha:accOk d) (hac:∀ j,j < d.E.length→AccE d j) (hE:d.E.length≤16) (j:Nat):HdOk (hdE d j (blE d d.E.length).length):=by
 have h1:=ha.1.1
 have h2:=blE_len hac _ (Nat.le_refl _)
 have hn:=rt2_nm ha.2.1
 have h0:lbOk (nmn d.rt) lb0:=by unfold lbOk lb0;simp only;omega
 refine ⟨ha.2.1,h1.2.2.1,h1.1,h1.2.1,by simp only [hdE];omega,by simp only [hdE];omega,h0,?_,by simp [hdE],by simp [hdE]⟩
 show lbOk (nmn d.rt) (if j=0 then lb0 else lbF (nmn d.rt) d.E[0]!.i)
 split
 ·exact h0
 ·by_cases he:0 < d.E.length
  ·have a:=hac 0 he
   exact (lbF_ok hn a.i0 a.i1).1
  ·have:d.E[0]! =default:=getElem!_neg d.E 0 he
   rw [this]
   exact (lbF_ok hn (f:=(default:Ev).i) (by decide) (by show (0:Int) < _;omega)).1
theorem encode_yes {H:GHeap} (hw:H.wf) {d:Dc} (hd:DcR H d) (hs:SmD d) (hc:colD d) (hE:d.E.length≤16) (ha:accOk d):
 ∃ q H',gev G 11 [dcV d] H=some (q,H')∧∃ w,q=.tuple #[w,.int .i64 0]∧OS 1 257 H H' w (encB d).length (u8s (encB d)):=by
 refine gev_GW (f:=11) rfl fun Post hPost=>?_
 have hlim:=hw.1
 have fd:=dc_cflat hd
 have hsl:=hd.ev.rd.rd.isSl
 simp only [frameOf,Nat.reduceAdd]
 repeat' (first|refine zz3 @g11.eq_1 @RDc @fd ?_|(refine zh (fun hc=>?_) (fun hc=>?_)<;>try simp only [yL] at hc))
 have hS1:Same H (H.add (some (.cells (dcC d) 0 true))):=(Same.refl hw).add _
 have m1:(H.add (some (.cells (dcC d) 0 true))).mine H.len=some (dcC d,0):=mine_add_eq rfl hlim
 generalize H.add (some (.cells (dcC d) 0 true))=H1 at *
 refine zc0 (accept_ok hS1.wf (hd.later hw hS1) hs hE) fun r2 H2 hq=>?_
 obtain ⟨j0,_,rfl,⟨n2,rfl,hn2⟩,hS12⟩:=hq
 obtain rfl:=hn2.2 ha
 have hac:=fun j hj=>acc_ev (j:=j) hs hc ha hE hj
 have hS2:=hS1.trans hS12
 have m1:=(hS12.mine (mine_lt hS1.wf m1)).trans m1
 have q1:=rd_mine m1
 have hw2:=hS2.wf
 have hlim2:=hw2.1
 have hlt1:=mine_lt hw2 m1
 obtain ⟨H3,hH3⟩:∃ H3,H3=(H2.add (some (.cells zHd 0 true))).put H2.len (.cells (hdC (hdE d 0 0)) 0 true):=⟨_,rfl⟩
 have hS23:Same H2 H3:=hH3 ▸ (Same.refl hw2).new _ _
 have m6:H3.mine H2.len=some (hdC (hdE d 0 0),0):=by rw [hH3,mine_put_same (by rw [lim_add];exact hlim2)]
 have hHs:(H2.add (some (.cells zHd 0 true))).put H2.len (.cells [.int .u8 d.rt,.string (strB d.la),.string (strB d.ti),.int .i64 0,.int .i64 d.E.length,.int .i64 0,.int .i64 0,.int .i64 0,.int .i64 0,.bool false,.int .i64 0,.int .i64 0,.int .i64 0,.int .i64 0,.bool false,.int .i64 15,.int .i64 32] 0 true)=H3:=by rw [hH3];rfl
 clear hH3
 have q13:=rd_mine ((hS23.mine hlt1).trans m1)
 repeat' (first|refine zz6 @g11.eq_1 @RDc @q1 hsl.len @hHs @q13 ?_|(refine zh (fun hc=>?_) (fun hc=>?_)<;>try simp only [yL] at hc))
 have hS3:=hS2.trans hS23
 have m13:=(hS23.mine hlt1).trans m1
 have hn6:H.len < H2.len:=hlt1
 generalize H2.len=i6 at *
 refine GW_loop (fun k fr K=>∃ (j:Nat) (v:Value) (L:List VB),k=d.E.length - j∧j≤d.E.length∧fr.get 1=some (.pointer (some ⟨H.len,0,none⟩))∧fr.get 6=some (.pointer (some ⟨i6,0,none⟩))∧fr.get 7=some (v)∧fr.get 35=some (d.ev)∧fr.get 36=some (.int .i64 d.E.length)∧fr.get 37=some (.int .i64 j)∧BO H K v L∧L.map (·.2)=blE d j∧K.mine H.len=some (dcC d,0)∧K.mine i6=some (hdC (hdE d j 0),0)) ?_ d.E.length ?_
 rotate_left
 ·refine ⟨0,.slice none 0 0,[],by omega,by omega,?_⟩
  simp only [↓yG,Nat.reduceEqDiff,↓reduceIte,Int.natCast_add,Int.cast_ofNat_Int,Int.natCast_zero,true_and,and_true,Option.some.injEq,Value.int.injEq]
  exact ⟨BO.nil hS3,rfl,m13,m6⟩
 rintro k fr K ⟨j,v,L,rfl,hj,f1,f6,f7,f35,f36,f37,hB,hL,m1,m6⟩ J hJ
 have hS:=hB.own.same
 have hwK:=hS.wf
 have hlimK:=hwK.1
 by_cases hj1:j < d.E.length
 case neg=>
  obtain rfl:j=d.E.length:=by omega
  have hslv:=hB.own.rd.isSl
  have hLl:L.length=(blE d d.E.length).length:=by rw [← hL,List.length_map]
  have gb:gset (hdC (hdE d d.E.length 0)) 3 (.int .i64 L.length)=some (hdC (hdE d d.E.length L.length)):=hd_bl
  have hB2:=hB.cell (d:=hdC (hdE d d.E.length L.length)) m6 (Nat.le_of_lt hn6)
  have hk:=blE_ok hac (Nat.le_refl _)
  rw [← hL] at hk
  repeat' (first|(exfalso;omega)|refine zz11 @g11.eq_1 @f1 @f6 @f7 @f35 @f36 @f37 hslv.len @m6 @gb @RH ?_|(refine zh (fun hc=>?_) (fun hc=>?_)<;>try simp only [yL] at hc))
  refine zc1 @f1 (wr_ok hB2.own.same.wf (h:=hdE d d.E.length L.length) (by rw [hLl];exact hdE_ok ha hac hE _) hB2.rd (fun x hx=>hk _ (List.mem_map.2 ⟨x,hx,rfl⟩)) rfl) fun r5 H5 hq=>?_
  obtain ⟨w,rfl,hO⟩:=hq
  repeat' (first|refine zz2 @g11.eq_1 @f1 ?_|(refine zh (fun hc=>?_) (fun hc=>?_)<;>try simp only [yL] at hc))
  have hen:hdB (hdE d d.E.length L.length) ++ blsB L=encB d:=by rw [encB,hLl,← hL];simp [blsB,fmB,List.flatMap_map]
  rw [hen] at hO
  exact hPost _ _ ⟨w,rfl,hO.weaken hB2.own.same⟩
 have hi1:=mine_lt hwK m1
 have hi6:=mine_lt hwK m6
 have hdK:=hd.later hw hS
 have e1:=hdK.ev.rowN hj1
 have hT:=hdK.ev.at_ hj1
 have hT0:=hd.ev.at_ hj1
 have hse:=hs.E.2 _ (bang_mem hj1)
 have hae:=hac j hj1
 have hpe:=hae.pl
 have hbs:=blE_succ d j
 have hbl:=(blE_len hac j hj).2
 have hpc:=(spl_len hae).2
 rw [← splF_len (evB d j)] at hpc
 have hLl:L.length=(blE d j).length:=by rw [← hL,List.length_map]
 have k1:=label_ok ha.2.1 hae.i0 hae.i1
 have k2:=label_ok ha.2.1 hae.o0 hae.o1
 have hTx:txtB false d.E[j]!.rows=txtB false (d.E[j]!.L.map (·.2)):=rfl
 have hti:=hae.ti
 have htl:(txtB false d.E[j]!.rows).length=(txE d.E[j]!).length:=(bU_len _).symm
 rw [hTx] at hti htl
 obtain ⟨b0,hb0⟩:∃ b:Bk,b=⟨j,0,lb0,lb0,topF (rgO d.R d.E[j]!) d.E[j]!.L.length,(rgO d.R d.E[j]!).al,[]⟩:=⟨_,rfl⟩
 obtain ⟨b1,hb1⟩:∃ b:Bk,b=⟨j,0,lbF (nmn d.rt) d.E[j]!.i,lb0,topF (rgO d.R d.E[j]!) d.E[j]!.L.length,(rgO d.R d.E[j]!).al,[]⟩:=⟨_,rfl⟩
 have s1:gsetn (bkC (.slice none 0 0) b0) 4 5 (lbV (lbF (nmn d.rt) d.E[j]!.i))=some (bkC (.slice none 0 0) b1):=by rw [hb0,hb1];exact bk_i
 have s2:gsetn (bkC (.slice none 0 0) b1) 9 5 (lbV (lbF (nmn d.rt) d.E[j]!.o))=some (bkC (.slice none 0 0) (evB d j)):=by rw [hb1];exact bk_o
 have hbi:(evB d j).i=lbF (nmn d.rt) d.E[j]!.i:=rfl
 have hbx:(evB d j).x=0∧(evB d j).t=[]:=⟨rfl,rfl⟩
 have hfi:j=0→lbF (nmn d.rt) d.E[j]!.i=lbF (nmn d.rt) d.E[0]!.i:=fun h=>by rw [h]
 clear hb1
 have hbk:=hae.bk
 generalize evB d j=b at *
 have ht0:=hae.t0
 have htl5:=hae.tl
 have htb:=hae.tb
 generalize hTT:txE d.E[j]! =T at *
 have hG:=hae.G
 clear hae
 generalize d.E[j]! =e at *
 have gse:=gsetn_ev (cs:=zEv) (e:=e) rfl hT.rd.flat
 have gsp:∀ a c,gsetn [.int .i64 0,.int .u8 0] 0 2 (plV a c)=some [.int .i64 a,.int .u8 c]:=fun a c=>gsetn_all rfl rfl rfl
 obtain ⟨H4,hH4⟩:∃ H4,H4=(K.add (some (.cells zEv 0 true))).put K.len (.cells (evC e) 0 true):=⟨_,rfl⟩
 have hS4:Same K H4:=hH4 ▸ (Same.refl hwK).new _ _
 have m9:H4.mine K.len=some (evC e,0):=by rw [hH4,mine_put_same (by rw [lim_add];exact hlimK)]
 have hHs4:=hH4.symm
 clear hH4
 have p1:H4.rdn H.len 0 8=some (dcV d):=rdn_mine ((hS4.mine hi1).trans m1) rfl
 have p9:H4.rdn K.len 0 7=some (evV e):=rdn_mine m9 rfl
 repeat' (first|(exfalso;omega)|refine zz13 @g11.eq_1 @f1 @f6 @f7 @f35 @f36 @f37 hsl.ix @e1 @gse @hHs4 @p1 @p9 ?_|(refine zh (fun hc=>?_) (fun hc=>?_)<;>try simp only [yL] at hc))
 refine zc6 @f1 @f6 @f7 @f35 @f36 @f37 (placed_ok hS4.wf (hdK.later hwK hS4) (hT.later hwK hS4) hse hs.R.1 hpe.sm hpe.fd hpe.pl hpe.n1) fun r5 H5 hq=>?_
 obtain ⟨rfl,hS45⟩:=hq
 have hw5:=hS45.wf
 have hlim5:=hw5.1
 obtain ⟨H6,hH6⟩:∃ H6,H6=(H5.add (some (.cells [.int .i64 0,.int .u8 0] 0 true))).put H5.len (.cells [.int .i64 (topF (rgO d.R e) e.L.length),.int .u8 (rgO d.R e).al] 0 true):=⟨_,rfl⟩
 have hS56:Same H5 H6:=hH6 ▸ (Same.refl hw5).new _ _
 have m10:H6.mine H5.len=some ([.int .i64 (topF (rgO d.R e) e.L.length),.int .u8 (rgO d.R e).al],0):=by rw [hH6,mine_put_same (by rw [lim_add];exact hlim5)]
 have hHs6:=hH6.symm
 clear hH6
 have q10:=rd_mine m10
 have hw6:=hS56.wf
 have hlim6:=hw6.1
 obtain ⟨H7,hH7⟩:∃ H7,H7=(H6.add (some (.cells zBk 0 true))).put H6.len (.cells (bkC (.slice none 0 0) b0) 0 true):=⟨_,rfl⟩
 have hS67:Same H6 H7:=hH7 ▸ (Same.refl hw6).new _ _
 have m11:H7.mine H6.len=some (bkC (.slice none 0 0) b0,0):=by rw [hH7,mine_put_same (by rw [lim_add];exact hlim6)]
 have hHs7:(H6.add (some (.cells zBk 0 true))).put H6.len (.cells [.int .i64 0,.int .i64 j,.int .u8 0,.int .u8 0,.int .i64 0,.int .i64 0,.int .i64 0,.int .i64 0,.bool false,.int .i64 0,.int .i64 0,.int .i64 0,.int .i64 0,.bool false,.int .i64 (topF (rgO d.R e) e.L.length),.int .u8 (rgO d.R e).al,.bool false,.slice none 0 0] 0 true)=H7:=by rw [hH7,hb0];rfl
 clear hH7
 have hSK7:=hS4.trans (hS45.trans (hS56.trans hS67))
 have hl6:K.len < H6.len:=Nat.lt_of_lt_of_le (mine_lt hS4.wf m9) (hS45.trans hS56).len
 have m17:=(hSK7.mine hi1).trans m1
 have m97:=((hS45.trans (hS56.trans hS67)).mine (mine_lt hS4.wf m9)).trans m9
 have q17:=rd_mine m17
 have q97:=rd_mine m97
 obtain ⟨H8,hH8⟩:∃ H8,H8=H7.put H6.len (.cells (bkC (.slice none 0 0) b1) 0 true):=⟨_,rfl⟩
 have m118:H8.mine H6.len=some (bkC (.slice none 0 0) b1,0):=by rw [hH8,mine_put_same (mine_obj m11).1]
 have hP8:∀ k c,k≠H6.len→H7.mine k=some (c,0)→H8.mine k=some (c,0):=fun k c h e=>by rw [hH8,mine_put_ne (Ne.symm h)];exact e
 have hSK8:Same K H8:=by rw [hH8];exact hSK7.put (by omega) (mine_lt hSK7.wf m11) _
 have hHs8:=hH8.symm
 clear hH8
 have q18:=rd_mine (hP8 _ _ (by omega) m17)
 have q98:=rd_mine (hP8 _ _ (by omega) m97)
 obtain ⟨H9,hH9⟩:∃ H9,H9=H8.put H6.len (.cells (bkC (.slice none 0 0) b) 0 true):=⟨_,rfl⟩
 have m119:H9.mine H6.len=some (bkC (.slice none 0 0) b,0):=by rw [hH9,mine_put_same (mine_obj m118).1]
 have hP9:∀ k c,k≠H6.len→H7.mine k=some (c,0)→H9.mine k=some (c,0):=fun k c h e=>by rw [hH9,mine_put_ne (Ne.symm h)];exact hP8 _ _ h e
 have hSK9:Same K H9:=by rw [hH9];exact hSK8.put (by omega) (mine_lt hSK8.wf m118) _
 have hHs9:=hH9.symm
 clear hH9
 refine zz24 @g11.eq_1 @f1 @f6 @f7 @f35 @f36 @f37 @gsp @hHs6 @q10 @REn @hHs7 @q17 @q97 @k1 @m11 @s1 @hHs8 @q18 @q98 @k2 @m118 @s2 @hHs9 ?_
 have hB9:=hB.later hSK9
 have m19:=hP9 _ _ (by omega) m17
 have m99:=hP9 _ _ (by omega) m97
 have m69:=hP9 _ _ (by omega) ((hSK7.mine hi6).trans m6)
 have hw9:=hSK9.wf
 have hlim9:=hw9.1
 have hn3:=hn6
 refine Hz_cut (fun fr Z=>fr.get 1=some (.pointer (some ⟨H.len,0,none⟩))∧fr.get 6=some (.pointer (some ⟨i6,0,none⟩))∧fr.get 7=some (v)∧fr.get 9=some (.pointer (some ⟨K.len,0,none⟩))∧fr.get 11=some (.pointer (some ⟨H6.len,0,none⟩))∧fr.get 35=some (d.ev)∧fr.get 36=some (.int .i64 d.E.length)∧fr.get 37=some (.int .i64 j)∧BO H Z v L∧Z.mine H.len=some (dcC d,0)∧Z.mine i6=some (hdC (hdE d (j+1) 0),0)∧Z.mine K.len=some (evC e,0)∧Z.mine H6.len=some (bkC (.slice none 0 0) b,0)) (fun hc=>?_) (fun hc=>?_) ?_
 ·have h0:j=0:=by have:=of_decide_eq_true hc;omega
  have p11:=bk_im m119
  rw [hbi,hfi h0] at p11
  have s6:gsetn (hdC (hdE d j 0)) 10 5 (lbV (lbF (nmn d.rt) d.E[0]!.i))=some (hdC (hdE d (j+1) 0)):=by rw [hd_fi,h0];rfl
  repeat' (first|refine zz10 @g11.eq_1 @f1 @f6 @f7 @f35 @f36 @f37 @p11 @m69 @s6 ?_|(refine zh (fun hc=>?_) (fun hc=>?_)<;>try simp only [yL] at hc))
  simp only [↓yG,Nat.reduceEqDiff,↓reduceIte,Int.natCast_add,Int.cast_ofNat_Int,Int.natCast_zero,true_and,and_true,Option.some.injEq,Value.int.injEq,f1,f6,f7,f35,f36,f37]
  exact ⟨hB9.cell m69 (Nat.le_of_lt hn3),by rw [mine_put_ne (by omega)];exact m19,mine_put_same (mine_obj m69).1,by rw [mine_put_ne (by omega)];exact m99,by rw [mine_put_ne (by omega)];exact m119⟩
 ·have h0:j≠0:=by have:=of_decide_eq_false hc;omega
  have e6:hdE d j 0=hdE d (j+1) 0:=by unfold hdE;rw [if_neg h0,if_neg (Nat.succ_ne_zero j)]
  rw [e6] at m69
  repeat' (first|refine zz7 @g11.eq_1 @f1 @f6 @f7 @f35 @f36 @f37 ?_|(refine zh (fun hc=>?_) (fun hc=>?_)<;>try simp only [yL] at hc))
  simp only [↓yG,Nat.reduceEqDiff,↓reduceIte,Int.natCast_add,Int.cast_ofNat_Int,Int.natCast_zero,true_and,and_true,Option.some.injEq,Value.int.injEq,f1,f6,f7,f35,f36,f37]
  exact ⟨hB9,m19,m69,m99,m119⟩
 clear m1 m6 m9 m10 m11 m17 m97 m118 m119 m19 m99 m69 hB hB9
 rintro fr Z ⟨f1,f6,f7,f9,f11,f35,f36,f37,hB,m1,m6,m9,m11⟩
 have hSZ:=hB.own.same
 have q9:=rd_mine m9
 repeat' (first|refine zz11 @g11.eq_1 @f1 @f6 @f7 @f9 @f11 @f35 @f36 @f37 @RE @q9 ?_|(refine zh (fun hc=>?_) (fun hc=>?_)<;>try simp only [yL] at hc))
 refine zc8 @f1 @f6 @f7 @f9 @f11 @f35 @f36 @f37 (text_ok hSZ.wf (hT0.later hw hSZ) hpe.n4 hse.2.2.2.2 hG) fun r10 H10 hq=>?_
 obtain ⟨w,rfl,hO⟩:=hq
 rw [hti,htl] at hO
 have p11:H10.rdn H6.len 0 18=some (bkV (.slice none 0 0) b):=rdn_mine ((hO.same.mine (mine_lt hSZ.wf m11)).trans m11) rfl
 repeat' (first|refine zz10 @g11.eq_1 @f1 @f6 @f7 @f9 @f11 @f35 @f36 @f37 @p11 ?_|(refine zh (fun hc=>?_) (fun hc=>?_)<;>try simp only [yL] at hc))
 refine zc8 @f1 @f6 @f7 @f9 @f11 @f35 @f36 @f37 (split_ok hO.same.wf hbk hbx.1 hbx.2 hO.rb ht0 (by omega) htb) fun r12 H12 hq=>?_
 obtain ⟨v2,L2,rfl,hB2,hL2⟩:=hq
 have hSZ2:=hO.same.trans hB2.own.same
 have hLl2:L2.length=(splF b T).length:=by rw [← hL2,List.length_map]
 obtain ⟨v3,H13,e13,hB3,hK⟩:=(hB.later hSZ2).app (hB2.weaken (hSZ.trans hO.same)) (by omega)
 repeat' (first|refine zz10 @g11.eq_1 @f1 @f6 @f7 @f9 @f11 @f35 @f36 @f37 @e13 ?_|(refine zh (fun hc=>?_) (fun hc=>?_)<;>try simp only [yL] at hc))
 refine hJ _ _ ⟨d.E.length - (j+1),by omega,j+1,v3,L ++ L2,rfl,by omega,?_⟩
 simp only [↓yG,Nat.reduceEqDiff,↓reduceIte,Int.natCast_add,Int.cast_ofNat_Int,Int.natCast_zero,true_and,and_true,Option.some.injEq,Value.int.injEq,f1,f6,f35,f36]
 exact ⟨hB3,by rw [hbs,List.map_append,hL,hL2],hK _ _ _ (by decide) ((hSZ2.mine (mine_lt hSZ.wf m1)).trans m1),hK _ _ _ (by decide) ((hSZ2.mine (mine_lt hSZ.wf m6)).trans m6)⟩
theorem encode_no {H:GHeap} (hw:H.wf) {d:Dc} (hd:DcR H d) (hs:SmD d) (hE:d.E.length≤16) (ha:¬ accOk d):
 ∃ q H',gev G 11 [dcV d] H=some (q,H')∧(Same H H'∧∃ n:Int,n≠0∧q=.tuple #[.slice none 0 0,.int .i64 n]):=by
 refine gev_GW (f:=11) rfl fun Post hPost=>?_
 have hlim:=hw.1
 have fd:=dc_cflat hd
 simp only [frameOf,Nat.reduceAdd]
 repeat' (first|refine zz3 @g11.eq_1 @RDc @fd ?_|(refine zh (fun hc=>?_) (fun hc=>?_)<;>try simp only [yL] at hc))
 have hS1:Same H (H.add (some (.cells (dcC d) 0 true))):=(Same.refl hw).add _
 generalize H.add (some (.cells (dcC d) 0 true))=H1 at *
 refine zc0 (accept_ok hS1.wf (hd.later hw hS1) hs hE) fun r2 H2 hq=>?_
 obtain ⟨j0,_,rfl,⟨n2,rfl,hn2⟩,hS12⟩:=hq
 have h2:n2≠0:=fun h=>ha (hn2.1 h)
 have d2:decide (¬ n2=0)=true:=decide_eq_true h2
 repeat' (first|refine zz2 @g11.eq_1 @d2 ?_|(refine zh (fun hc=>?_) (fun hc=>?_)<;>try simp only [yL] at hc))
 exact hPost _ _ ⟨hS1.trans hS12,n2,h2,rfl⟩
end Go.Gh
end
section
namespace Go.Gh
set_option linter.unusedSimpArgs false
set_option linter.unusedVariables false
set_option maxHeartbeats 4000000
open Go.RowKit
set_option maxRecDepth 4000
def rdrC (x:Dc) (j:Int):List Value:=dcC x ++ [.int .i64 j]
section
variable {H H':GHeap} {x:Dc} {j:Int}
theorem rdr_2:(rdrC x j)[2]? =some (.int .u8 x.rt):=rfl
theorem rdr_5:(rdrC x j)[5]? =some x.rv:=rfl
theorem rdr_6:(rdrC x j)[6]? =some x.ev:=rfl
theorem rdr_8:(rdrC x j)[8]? =some (.int .i64 j):=rfl
theorem rdr_s8 {k:Int}:gset (rdrC x j) 8 (.int .i64 k)=some (rdrC x k):=gset_ok (by simp [rdrC,dcC]) rfl
theorem rdr_s5 {w:Value} {L:List Rg} (hf:flatV w=true):gset (rdrC x j) 5 w=some (rdrC {x with rv:=w,R:=L} j):=gset_ok (by simp [rdrC,dcC]) hf
theorem rdr_s6 {w:Value} {E:List Ev} (hf:flatV w=true):gset (rdrC x j) 6 w=some (rdrC {x with ev:=w,E:=E} j):=gset_ok (by simp [rdrC,dcC]) hf
theorem RRd:type_of% (And.intro (And.intro @rdr_2 @rdr_5) (And.intro @rdr_6 (And.intro @rdr_8 @rdr_s8))):=And.intro (And.intro @rdr_2 @rdr_5) (And.intro @rdr_6 (And.intro @rdr_8 @rdr_s8))
end
def Keep7 (i:Nat) (H H':GHeap):Prop:=∀ k c u,k≠i→u≠7→H.mine k=some (c,u)→H'.mine k=some (c,u)
theorem Keep7.same {i:Nat} {H H':GHeap} (hw:H.wf) (h:Same H H'):Keep7 i H H':=fun k c u _ _ m=>(h.mine (mine_lt hw m)).trans m
theorem Keep7.trans {i:Nat} {A B C:GHeap} (h:Keep7 i A B) (g:Keep7 i B C):Keep7 i A C:=fun k c u h1 h2 m=>g k c u h1 h2 (h k c u h1 h2 m)
theorem Keep7.put {i:Nat} {A B:GHeap} (h:Keep7 i A B) (o:GObj):Keep7 i A (B.put i o):=fun k c u h1 h2 m=>by rw [mine_put_ne (Ne.symm h1)];exact h k c u h1 h2 m
theorem Keep7.keep {i:Nat} {A B:GHeap} (h:Keep 7 A B):Keep7 i A B:=fun k c u _ h2 m=>h k c u h2 m
theorem OS.keep7 {s u n i:Nat} {H0 H H':GHeap} {v:Value} {xs c:List Value} (h:OS s u H0 H v n xs) (h0:u≠0) (h7:u≠7) (m:H.mine i=some (c,0)) (k:Keep7 i H H') (hs:Same H0 H'):OS s u H0 H' v n xs:=by
 refine ⟨hs,⟨h.own.len,h.own.at_.imp id fun ⟨a,gc,e,hg,hm⟩=>⟨a,gc,e,hg,k _ _ _ (fun e=>?_) h7 hm⟩⟩,h.young⟩
 rw [e,m] at hm
 simp only [Option.some.injEq,Prod.mk.injEq] at hm
 exact h0 hm.2.symm
theorem BO.keep7 {i:Nat} {H0 H H':GHeap} {v:Value} {L:List VB} {c:List Value} (h:BO H0 H v L) (m:H.mine i=some (c,0)) (k:Keep7 i H H') (hs:Same H0 H'):BO H0 H' v L:=
 ⟨h.own.keep7 (by decide) (by decide) m k hs,fun x hx=>(h.rows x hx).keep7 (by decide) (by decide) m k hs⟩
theorem bk_om {H:GHeap} {i u:Nat} {v:Value} {b:Bk} (h:H.mine i=some (bkC v b,u)):H.rdn i 9 5=some (lbV b.o):=by
 have:=(mine_obj h).2
 simp only [GHeap.rdn,GHeap.cs,this];rfl
theorem REd:type_of% (And.intro (And.intro RRd RG) (And.intro RBk RK)):=And.intro (And.intro RRd RG) (And.intro RBk RK)
theorem rgP_sm {b5 b:Bk} (hr:0≤b.r∧b.r < 15) (ha:1≤b.al∧b.al≤3) (h:b5.r=b.r∧b5.al=b.al):smG (rgP b5.r b5.al):=by
 refine ⟨by simp [rgP],?_,?_⟩<;>simp only [rgP]<;>omega
theorem ins_sm {r:Rg} {L:List Rg} (hL:∀ x ∈ L,smG x) (hr:smG r):∀ x ∈ insF r L,smG x:=by
 induction L with
 |nil=>intro x hx;rw [List.mem_singleton.1 hx];exact hr
 |cons y l ih=>
  have ih:=ih fun x hx=>hL x (by simp [hx])
  intro x hx
  unfold insF at hx
  split at hx
  ·rcases List.mem_cons.1 hx with rfl|hx
   ·exact hL _ (by simp)
   ·exact ih x hx
  ·split at hx
   ·exact hL x hx
   ·rcases List.mem_cons.1 hx with rfl|hx
    ·exact hr
    ·exact hL x hx
def frB (r:Int) (x:Lb):Int:=((x.h * 60+x.m) * 60+x.s) * nmn r+x.f
theorem enc_le:∀ {L:List Nat},(∀ c ∈ L,c ∈ REP)→(L.flatMap encL).length≤3 * L.length
 |[],_=>by simp
 |c :: L,h=>by
  have ih:=enc_le (L:=L) fun x hx=>h x (by simp [hx])
  have h1:=(encL_len (h c (by simp))).1
  rw [List.flatMap_cons,List.length_append,List.length_cons];omega
theorem cnt_mem:∀ {l:List SR} {x:SR},x ∈ l→cntR x≤cntL l
 |[],x,h=>by cases h
 |y :: l,x,h=>by
  have e:cntL (y :: l)=cntR y+cntL l:=by simp [cntL]
  rcases List.mem_cons.1 h with rfl|h
  ·omega
  ·have:=cnt_mem h;omega
theorem smR_bare {l:List SR} (h:RowG l):smR (bareF l):=by
 have hg:=(bareF_gd h).1.all
 have hb:=bareF_row h
 refine ⟨by have:=hb.len;omega,fun x hx=>⟨?_,by rw [(hg x hx).y];decide⟩⟩
 obtain ⟨h1,h2⟩:=chs_of (hg x hx).v
 have h3:=hb.cnt
 have h4:=cnt_mem hx
 have h5:=enc_le h2
 rw [← h1] at h5
 unfold cntR at h4
 omega
theorem subtitle_ok {H0 H:GHeap} {x:Dc} (hO:DcO H0 H x) {i:Nat} {j:Nat} (mi:H.mine i=some (rdrC x j,0)) (hi:H0.len≤i) (hj:x.E.length=j) (hj16:j < 16) (hR16:x.R.length < 16) (hRs:∀ r ∈ x.R,smG r) (hrt:rt2 x.rt)
 {b:Bk} (hb:BkOk b) (hbn:b.n=j) (hbi:lbOk (nmn x.rt) b.i) (hbo:lbOk (nmn x.rt) b.o) {P:List (List SR)} (hP:P≠[]) (hP4:P.length≤4) (hG:∀ l ∈ P,RowG l) {T:List UInt8} (hT:ints .u8 (txtB false P)=u8s T) (hTn:T≠[]) (hTb:∀ c ∈ T,c≠143) (hTl:T.length≤500)
 (hev:∀ v L,L.map (·.2)=P.map bareF→evOk (insF (rgP b.r b.al) x.R) ⟨j+1,frB x.rt b.i,frB x.rt b.o,(rgP b.r b.al).nm,1,[],v,L⟩)
 {v:Value} {LL:List VB} (hL:BlR H v LL) (hLL:LL.map (·.2)=splF b T):
 ∃ q H',gev G 42 [.pointer (some ⟨i,0,none⟩),v] H=some (q,H')∧∃ x' L,q=.int .i64 0∧H'.mine i=some (rdrC x' (j+1),0)∧DcO H0 H' x'∧Keep7 i H H'∧L.map (·.2)=P.map bareF∧
  x'={x with rv:=x'.rv,R:=insF (rgP b.r b.al) x.R,ev:=x'.ev,E:=x.E ++ [⟨j+1,frB x.rt b.i,frB x.rt b.o,(rgP b.r b.al).nm,1,[],x'.E[j]!.v,L⟩]}:=by
 refine gev_GW (f:=42) rfl fun Post hPost=>?_
 have hS:=hO.rg.same
 have hw:=hS.wf
 have hlim:=hw.1
 have hlt:=mine_lt hw mi
 simp only [frameOf,Nat.reduceAdd]
 repeat' (first|refine zz1 @g42.eq_1 ?_|(refine zh (fun hc=>?_) (fun hc=>?_)<;>try simp only [yL] at hc))
 refine zc0 (join_ok' hw hb hTn (by omega) hTb hL hLL) fun r2 H2 hq=>?_
 obtain ⟨w,rfl,hOw⟩:=hq
 have hw2:=hOw.same.wf
 have hlim2:=hw2.1
 obtain ⟨b5,hb5⟩:∃ b':Bk,b'={b with x:=255}:=⟨_,rfl⟩
 rw [← hb5]
 obtain ⟨H3,hH3⟩:∃ K,K=(H2.add (some (.cells zBk 0 true))).put H2.len (.cells (bkC (.slice none 0 0) b5) 0 true):=⟨_,rfl⟩
 have hS23:Same H2 H3:=hH3 ▸ (Same.refl hw2).new _ _
 have m5:H3.mine H2.len=some (bkC (.slice none 0 0) b5,0):=by rw [hH3,mine_put_same (by rw [lim_add];exact hlim2)]
 have gsb:=bk_set (v:=.slice none 0 0) (b:=b5) (cs:=zBk) rfl rfl
 have hHs3:=hH3.symm
 clear hH3
 have hS3:=hOw.same.trans hS23
 have mi3:=(hS3.mine hlt).trans mi
 have q5:=rd_mine m5
 have qi:=rd_mine mi3
 have hn5:b5.n=j:=by rw [hb5];exact hbn
 have hi5:b5.i=b.i:=by rw [hb5]
 have ho5:b5.o=b.o:=by rw [hb5]
 have hr5:b5.r=b.r∧b5.al=b.al:=by rw [hb5];exact ⟨rfl,rfl⟩
 clear hb5
 have z0:decide (¬ True)=false:=rfl
 have d31:decide (¬ (b5.n:Int)=j)=false:=decide_eq_false (by rw [hn5];omega)
 have k44:=region_ok hb.r hb.al
 rw [← hr5.1,← hr5.2] at k44 hev
 unfold plV at k44
 obtain ⟨g,hg⟩:∃ g,g=rgP b5.r b5.al:=⟨_,rfl⟩
 rw [← hg] at k44 hev
 have hgP:rgP b.r b.al=g:=by rw [hg,hr5.1,hr5.2]
 rw [hgP] at hPost
 obtain ⟨H4,hH4⟩:∃ K,K=H3.put i (.cells (rdrC x ((j:Int)+1)) 0 true):=⟨_,rfl⟩
 have hw3:=hS3.wf
 have m54:H4.mine H2.len=some (bkC (.slice none 0 0) b5,0):=by
  have:=hOw.same.len
  rw [hH4,mine_put_ne (by omega)];exact m5
 have mi4:H4.mine i=some (rdrC x ((j:Int)+1),0):=by rw [hH4,mine_put_same (mine_obj mi3).1]
 have hO4:DcO H0 H4 x:=hH4 ▸ (hO.later hS3).cell mi3 hi
 have hK4:Keep7 i H H4:=hH4 ▸ (Keep7.same hw hS3).put _
 have hOw4:OS 1 257 H0 H4 w T.length (u8s T):=(OS.weaken (OS.later hOw hS23) hS).keep7 (by decide) (by decide) mi3 (hH4 ▸ (Keep7.same hw3 (Same.refl hw3)).put _) hO4.rg.same
 have hHs4:=hH4.symm
 clear hH4
 have hw4:=hO4.rg.same.wf
 have hlim4:=hw4.1
 have q54:=rd_mine m54
 have qi4:=rd_mine mi4
 have hl4:=mine_lt hw4 mi4
 have hl54:=mine_lt hw4 m54
 obtain ⟨H6,hH6⟩:∃ K,K=(H4.add (some (.cells zRg 0 true))).put H4.len (.cells (rgC g) 0 true):=⟨_,rfl⟩
 have hS46:Same H4 H6:=hH6 ▸ (Same.refl hw4).new _ _
 have m9:H6.mine H4.len=some (rgC g,0):=by rw [hH6,mine_put_same (by rw [lim_add];exact hlim4)]
 have hHs6:=hH6.symm
 clear hH6
 have hw6:=hS46.wf
 have hlim6:=hw6.1
 have q9:=rd_mine m9
 have mi6:=(hS46.mine hl4).trans mi4
 have qi6:=rd_mine mi6
 have hsE:=hO4.ev.own.rd.isSl
 rw [hj] at hsE
 have k1:∀ H,gev G 93 [.int .u8 x.rt,lbV b5.i] H=some (.tuple #[.int .i64 (frB x.rt b5.i),.int .i64 0],H):=tfrm_ok hrt (x:=b5.i) (by rw [hi5];exact hbi)
 have k2:∀ H,gev G 93 [.int .u8 x.rt,lbV b5.o] H=some (.tuple #[.int .i64 (frB x.rt b5.o),.int .i64 0],H):=tfrm_ok hrt (x:=b5.o) (by rw [ho5];exact hbo)
 rw [← hi5,← ho5] at hev
 rw [← hi5,← ho5] at hPost
 generalize frB x.rt b5.i=fi at *
 generalize frB x.rt b5.o=fo at *
 obtain ⟨e0,he0⟩:∃ e:Ev,e=⟨j+1,0,0,g.nm,1,[],.slice none 0 0,[]⟩:=⟨_,rfl⟩
 obtain ⟨e1,he1⟩:∃ e:Ev,e=⟨j+1,fi,0,g.nm,1,[],.slice none 0 0,[]⟩:=⟨_,rfl⟩
 obtain ⟨e2,he2⟩:∃ e:Ev,e=⟨j+1,fi,fo,g.nm,1,[],.slice none 0 0,[]⟩:=⟨_,rfl⟩
 have s1:gset (evC e0) 1 (.int .i64 fi)=some (evC e1):=by rw [he0,he1];exact gset_ok (by simp [evC]) rfl
 have s2:gset (evC e1) 2 (.int .i64 fo)=some (evC e2):=by rw [he1,he2];exact gset_ok (by simp [evC]) rfl
 obtain ⟨H8,hH8⟩:∃ K,K=(H6.add (some (.cells zEv 0 true))).put H6.len (.cells (evC e0) 0 true):=⟨_,rfl⟩
 have hS68:Same H6 H8:=hH8 ▸ (Same.refl hw6).new _ _
 have m10:H8.mine H6.len=some (evC e0,0):=by rw [hH8,mine_put_same (by rw [lim_add];exact hlim6)]
 have hHs8:(H6.add (some (.cells zEv 0 true))).put H6.len (.cells [.int .i64 ((j:Int)+1),.int .i64 0,.int .i64 0,.string (strB g.nm),.int .u8 1,.string ⟨#[]⟩,.slice none 0 0] 0 true)=H8:=by rw [hH8,he0];rfl
 clear hH8
 have hS48:=hS46.trans hS68
 have hn6:H4.len≤H6.len:=hS46.len
 have hn64:=mine_lt hw6 m9
 have m58:=(hS48.mine hl54).trans m54
 have mi8:=(hS48.mine hl4).trans mi4
 have p58:=bk_im m58
 have qi8:=rd_mine mi8
 obtain ⟨H9,hH9⟩:∃ K,K=H8.put H6.len (.cells (evC e1) 0 true):=⟨_,rfl⟩
 have m109:H9.mine H6.len=some (evC e1,0):=by rw [hH9,mine_put_same (mine_obj m10).1]
 have hS49:Same H4 H9:=hH9 ▸ hS48.put hn6 (mine_lt hS68.wf m10) _
 have hHs9:=hH9.symm
 have p59:=bk_om ((hS49.mine hl54).trans m54)
 have qi9:=rd_mine ((hS49.mine hl4).trans mi4)
 obtain ⟨H10,hH10⟩:∃ K,K=H9.put H6.len (.cells (evC e2) 0 true):=⟨_,rfl⟩
 have m1010:H10.mine H6.len=some (evC e2,0):=by rw [hH10,mine_put_same (mine_obj m109).1]
 have hS4A:Same H4 H10:=hH10 ▸ hS49.put hn6 (mine_lt hS49.wf m109) _
 have m9A:H10.mine H4.len=some (rgC g,0):=by
  rw [hH10,mine_put_ne (by omega),hH9,mine_put_ne (by omega)]
  exact (hS68.mine hn64).trans m9
 have hHs10:=hH10.symm
 clear hH9 hH10
 have q58:=rd_mine m58
 repeat' (first|refine zz18 @g42.eq_1 @z0 @gsb @hHs3 @REd @q5 @qi @d31 @mi3 @hHs4 @q54 @qi4 @k44 @hHs6 @q9 @qi6 hsE.len @hHs8 ?_|(refine zh (fun hc=>?_) (fun hc=>?_)<;>try simp only [yL] at hc))
 repeat' (first|refine zz15 @g42.eq_1 @z0 @REd @p58 @qi8 @k1 @m10 @s1 @hHs9 @p59 @qi9 @k2 @m109 @s2 @hHs10 ?_|(refine zh (fun hc=>?_) (fun hc=>?_)<;>try simp only [yL] at hc))
 have hTl2:(txtB false P).length=T.length:=by
  have:=congrArg List.length hT
  rwa [ints_length,u8s_length] at this
 have hwA:=hS4A.wf
 have hOA:=hO4.later hS4A
 have harg:GArg1 H10 1 w (txtB false P).length (ints .u8 (txtB false P)):=by rw [hT,hTl2];exact (OS.later hOw4 hS4A).rb
 refine zc0 (rows_ok hwA harg (txtB_inR hG) (by omega) (scan_txt hP hG)) fun rB HB hq=>?_
 obtain ⟨wr,LR,rfl,hTO,hLR⟩:=hq
 have hSAB:=hTO.own.same
 obtain ⟨e3,he3⟩:∃ e:Ev,e=⟨j+1,fi,fo,g.nm,1,[],wr,LR⟩:=⟨_,rfl⟩
 have s3:gset (evC e2) 6 wr=some (evC e3):=by rw [he2,he3];exact gset_ok (by simp [evC]) hTO.own.flat
 have m10B:=(hSAB.mine (mine_lt hwA m1010)).trans m1010
 have hOB:=hOA.later hSAB
 obtain ⟨HC,hHC⟩:∃ K,K=HB.put H6.len (.cells (evC e3) 0 true):=⟨_,rfl⟩
 have hS4C:Same H4 HC:=hHC ▸ (hS4A.trans hSAB).put hn6 (mine_lt hSAB.wf m10B) _
 have m10C:HC.mine H6.len=some (evC e3,0):=by rw [hHC,mine_put_same (mine_obj m10B).1]
 have hOC:=hO4.later hS4C
 have hTC:TO H0 HC wr LR:=by rw [hHC];exact (hTO.weaken hOA.rg.same).cell m10B (Nat.le_trans hO4.rg.same.len hn6)
 have miC:=(hS4C.mine hl4).trans mi4
 have qiC:=rd_mine miC
 have hHsC:=hHC.symm
 have m9C:HC.mine H4.len=some (rgC g,0):=by
  rw [hHC,mine_put_ne (by omega)]
  exact (hSAB.mine (by have:=hS4A.len;have:=mine_lt hwA m1010;omega)).trans m9A
 clear hHC
 have p9C:HC.rdn H4.len 0 7=some (rgV g):=rdn_mine m9C rfl
 repeat' (first|refine zz8 @g42.eq_1 @z0 @REd @m10B @s3 @hHsC @qiC @p9C ?_|(refine zh (fun hc=>?_) (fun hc=>?_)<;>try simp only [yL] at hc))
 refine zc0 (add_ok hS4C.wf (hOC.rg.argN (by decide)) (by omega) g) fun wD HD hq=>?_
 obtain ⟨hSCD,hvD,hc⟩:=hq
 have hOD:=hOC.setR hSCD hc
 have hDl:=ins_len (r:=g) x.R
 have hsD:=hvD.rd.isSl
 have d400:decide ((400:Int)≤j)=false:=decide_eq_false (by omega)
 have d16:decide ((16:Int) < (insF g x.R).length)=false:=decide_eq_false (by omega)
 have m10D:=(hSCD.mine (mine_lt hS4C.wf m10C)).trans m10C
 have miD:=(hSCD.mine (mine_lt hS4C.wf miC)).trans miC
 have qiD:=rd_mine miD
 have p10D:HD.rdn H6.len 0 7=some (evV e3):=rdn_mine m10D rfl
 have hTD:=hTC.later hSCD
 have hwD:=hSCD.wf
 repeat' (first|refine zz9 @g42.eq_1 @z0 @REd @qiD hsE.len hsD.len @d400 @d16 @p10D ?_|(refine zh (fun hc=>?_) (fun hc=>?_)<;>try simp only [yL] at hc))
 have hgs:smG g:=by rw [hg];exact rgP_sm hb.r hb.al hr5
 have hLl:LR.length=P.length:=by rw [← List.length_map (f:=(·.2)),hLR,List.length_map]
 have hsm:smE e3:=by
  rw [he3]
  refine ⟨by have:=hgs.1;exact this,by simp,⟨by show (0:Int)≤1;decide,by show (1:Int)≤255;decide⟩,by show LR.length≤_;omega,fun y hy=>?_⟩
  have:y.2 ∈ P.map bareF:=by rw [← hLR];exact List.mem_map.2 ⟨y,hy,rfl⟩
  obtain ⟨l,hl,e⟩:=List.mem_map.1 this
  rw [← e];exact smR_bare (hG l hl)
 have hT3:TO H0 HD e3.v e3.L:=by rw [he3];exact hTD
 refine zc0 (evCheck_ok hwD hT3.tr hsm hvD (by omega) (ins_sm hRs hgs)) fun rE HE hq=>?_
 obtain ⟨⟨nE,rfl,hnE⟩,hSDE⟩:=hq
 obtain rfl:=hnE.2 (by rw [he3];exact hev wr LR hLR)
 have miE:=(hSDE.mine (mine_lt hwD miD)).trans miD
 have m10E:=(hSDE.mine (mine_lt hwD m10D)).trans m10D
 have hOE:=hOD.later hSDE
 obtain ⟨x1,hx1⟩:∃ x1:Dc,x1={x with rv:=wD,R:=insF g x.R}:=⟨_,rfl⟩
 have gs5:=rdr_s5 (x:=x) (j:=j+1) (w:=wD) (L:=insF g x.R) hvD.flat
 rw [← hx1] at hOE gs5
 obtain ⟨HF,hHF⟩:∃ K,K=HE.put i (.cells (rdrC x1 ((j:Int)+1)) 0 true):=⟨_,rfl⟩
 have hOF:DcO H0 HF x1:=hHF ▸ hOE.cell miE hi
 have miF:HF.mine i=some (rdrC x1 ((j:Int)+1),0):=by rw [hHF,mine_put_same (mine_obj miE).1]
 have m10F:HF.mine H6.len=some (evC e3,0):=by rw [hHF,mine_put_ne (by omega)];exact m10E
 have hTF:TO H0 HF e3.v e3.L:=by rw [hHF];exact (hT3.later hSDE).cell miE hi
 have hHsF:=hHF.symm
 have hKF:Keep7 i H HF:=by
  rw [hHF]
  exact (hK4.trans (Keep7.same hw4 (hS4C.trans (hSCD.trans hSDE)))).put _
 clear hHF
 have qiF:=rd_mine miF
 have p10F:HF.rdn H6.len 0 7=some (evV e3):=rdn_mine m10F rfl
 have fe:=fill_ev (e:=e3) hT3.sl
 have hx1E:x1.E.length=j:=by rw [hx1];exact hj
 obtain ⟨v',HG,eG,hOG,hKG⟩:=hOF.snoc (e:=e3) hTF (by omega)
 have miG:=hKG _ _ _ (by decide) miF
 have gs6:=rdr_s6 (x:=x1) (j:=j+1) (w:=v') (E:=x1.E ++ [e3]) hOG.ev.own.flat
 have hlimF:=hOF.rg.same.wf.1
 repeat' (first|refine zz12 @g42.eq_1 @z0 @REd @miE @gs5 @hHsF @qiF @p10F @fe @eG @miG @gs6 ?_|(refine zh (fun hc=>?_) (fun hc=>?_)<;>try simp only [yL] at hc))
 refine hPost _ _ ⟨{x1 with ev:=v',E:=x1.E ++ [e3]},LR,rfl,mine_put_same (mine_obj miG).1,hOG.cell miG hi,(hKF.trans (Keep7.keep hKG)).put _,hLR,?_⟩
 have hlast:(x1.E ++ [e3])[j]! =e3:=by rw [← hx1E];exact getE_last
 simp only [hlast]
 rw [he3,hx1]
end Go.Gh
end
section
namespace Go.Gh
set_option linter.unusedSimpArgs false
set_option linter.unusedVariables false
set_option maxHeartbeats 4000000
open Go.RowKit
set_option maxRecDepth 4000
def evWith (e:Ev) (v:Value) (L:List VR'):Ev:={ e with v:=v,L:=L }
theorem gset_ev6 {e:Ev} {v:Value} {L:List VR'} (hf:flatV v=true):gset (evC e) 6 v=some (evC (evWith e v L)):=gset_ok (by simp [evC]) hf
theorem eclone_ok {H:GHeap} (hw:H.wf) {e:Ev} (hT:TR H e.v e.L) (hs:smE e):
 ∃ r H',gev G 95 [evV e] H=some (r,H')∧∃ v L,r=evV (evWith e v L)∧TO H H' v L∧L.map (·.2)=e.L.map (·.2):=by
 refine gev_GW (f:=95) rfl fun Post hPost=>?_
 have hlim:=hw.1
 have fe:=ev_cflat hT.rd.flat
 simp only [frameOf,Nat.reduceAdd]
 repeat' (first|refine zz3 @g95.eq_1 @RE @fe ?_|(refine zh (fun hc=>?_) (fun hc=>?_)<;>try simp only [yL] at hc))
 obtain ⟨H1,hH1⟩:∃ H1,H1=(H.add (some (.cells (evC e) 0 true))).add (some (.cells zEv 0 true)):=⟨_,rfl⟩
 have hSa:Same H (H.add (some (.cells (evC e) 0 true))):=(Same.refl hw).add _
 have hS1:Same H H1:=hH1 ▸ hSa.add _
 have m1:H1.mine H.len=some (evC e,0):=by rw [hH1];exact (((Same.refl hSa.wf).add _).mine (by rw [len_add];omega)).trans (mine_add_eq rfl hlim)
 have m2:H1.mine (H.len+1)=some (zEv,0):=by rw [hH1];exact mine_add_eq (by rw [len_add]) (by rw [lim_add];omega)
 rw [← hH1]
 clear hH1
 have q1:=rd_mine m1
 repeat' (first|refine zz3 @g95.eq_1 @RE @q1 ?_|(refine zh (fun hc=>?_) (fun hc=>?_)<;>try simp only [yL] at hc))
 refine zc0 (clone_ok hS1.wf (hT.later hw hS1) (by have:=hs.2.2.2.1;omega) (fun x hx=>by have:=(hs.2.2.2.2 x hx).1;omega)) fun r2 H2 hq=>?_
 obtain ⟨L,hO,hL⟩:=hq
 have m1:=(hO.own.same.mine (mine_lt hS1.wf m1)).trans m1
 have m2:=(hO.own.same.mine (mine_lt hS1.wf m2)).trans m2
 have gs:=gset_ev6 (e:=e) (L:=L) hO.own.flat
 have hO0:=hO.weaken hS1
 have hO3:=hO0.cell (d:=evC (evWith e r2 L)) m1 (Nat.le_refl _)
 have m13:(H2.put H.len (.cells (evC (evWith e r2 L)) 0 true)).mine H.len=some (evC (evWith e r2 L),0):=mine_put_same (mine_obj m1).1
 have m23:(H2.put H.len (.cells (evC (evWith e r2 L)) 0 true)).mine (H.len+1)=some (zEv,0):=by rw [mine_put_ne (by omega)];exact m2
 have p13:=rdn_mine (n:=7) m13 rfl
 have gse:=gsetn_ev (cs:=zEv) (e:=evWith e r2 L) rfl hO.own.flat
 rw [← evV_eq] at p13
 repeat' (first|refine zz7 @g95.eq_1 @RE @m1 @gs @p13 @m23 @gse ?_|(refine zh (fun hc=>?_) (fun hc=>?_)<;>try simp only [yL] at hc))
 exact hPost _ _ ⟨r2,L,rfl,hO3.cell m23 (Nat.le_succ _),hL⟩
theorem sort1_ok {H:GHeap} (hw:H.wf) {a b:Ev} (ha:flatV a.v=true) (hb:flatV b.v=true):
 ∃ r H',gev G 97 [evV a,evV b] H=some (r,H')∧((∃ n:Int,r=.int .i64 n∧(n < 0↔lessE a b))∧Same H H'):=by
 refine gev_GW (f:=97) rfl fun Post hPost=>?_
 have hlim:=hw.1
 have fa:=ev_cflat ha
 have fb:=ev_cflat hb
 simp only [frameOf,Nat.reduceAdd]
 repeat' (first|refine zz4 @g97.eq_1 @RE @fa @fb ?_|(refine zh (fun hc=>?_) (fun hc=>?_)<;>try simp only [yL] at hc))
 have hS:Same H ((H.add (some (.cells (evC a) 0 true))).add (some (.cells (evC b) 0 true))):=((Same.refl hw).add _).add _
 repeat' (first|refine zz4 @g97.eq_1 @RE @RK @cmp_ok ?_|(refine zh (fun hc=>?_) (fun hc=>?_)<;>try simp only [yL] at hc))
 have hO:=OS.made' (s:=1) (u:=1) (n:=2) (cs:=ints .i64 [cmpI a.i b.i,cmpI a.id b.id]) hS rfl
 have hrd:=hO.rd
 have hup:GRd (((H.add (some (.cells (evC a) 0 true))).add (some (.cells (evC b) 0 true))).add (some (.cells (ints .i64 [cmpI a.i b.i,cmpI a.id b.id]) 1 true))).up 1 (.slice (some ⟨((H.add (some (.cells (evC a) 0 true))).add (some (.cells (evC b) 0 true))).len,0,none⟩) 2 3) 2 (ints .i64 [cmpI a.i b.i,cmpI a.id b.id]):=hrd
 refine zm0 (or_ok hup) fun r3 H3 hq=>?_
 obtain ⟨rfl,rfl⟩:=hq
 erw [updown]
 repeat' (first|refine zz2 @g97.eq_1 @RE ?_|(refine zh (fun hc=>?_) (fun hc=>?_)<;>try simp only [yL] at hc))
 exact hPost _ _ ⟨⟨_,rfl,cmp_less⟩,hO.same⟩
theorem lessE_no {a b:Ev} (h:lessE a b):¬ lessE b a:=by unfold lessE at *;omega
def Sorted (E:List Ev):Prop:=∀ i,0 < i→i < E.length→lessE E[i - 1]! E[i]!
theorem insort_ok {H:GHeap} (hw:H.wf) {v:Value} {E:List Ev} (hv:EvR H v E) (hs:Sorted E) (hl:E.length≤20):
 ∃ r H',gev G 189 [v,.int .i64 0,.int .i64 E.length,.func (.func 97) #[] #[]] H=some (r,H')∧Same H H':=by
 refine gev_GW (f:=189) rfl fun Post hPost=>?_
 have hlim:=hw.1
 have hsl:=hv.rd.rd.isSl
 simp only [frameOf,Nat.reduceAdd]
 repeat' (first|refine zz1 @g189.eq_1 ?_|(refine zh (fun hc=>?_) (fun hc=>?_)<;>try simp only [yL] at hc))
 refine GW_loop (fun k fr H1=>∃ i:Nat,k=E.length - i∧1≤i∧(i≤E.length∨i=1)∧fr.get 0=some (v)∧fr.get 1=some (.int .i64 0)∧fr.get 2=some (.int .i64 E.length)∧fr.get 3=some (.func (.func 97) #[] #[])∧fr.get 8=some (.int .i64 i)∧Same H H1) ?_ (E.length - 1) ?_
 rotate_left
 ·refine ⟨1,rfl,by omega,.inr rfl,?_⟩
  simp only [↓yG,Nat.reduceEqDiff,↓reduceIte,Int.natCast_add,Int.cast_ofNat_Int,Int.natCast_zero,true_and,and_true,Option.some.injEq,Value.int.injEq]
  exact ⟨rfl,Same.refl hw⟩
 rintro k fr H1 ⟨i,rfl,h1,h2,f0,f1,f2,f3,f8,hS⟩ J hJ
 have hw1:=hS.wf
 have hlim1:=hw1.1
 by_cases hi:i < E.length
 case neg=>
  repeat' (first|(exfalso;omega)|refine zz6 @g189.eq_1 @f0 @f1 @f2 @f3 @f8 ?_|(refine zh (fun hc=>?_) (fun hc=>?_)<;>try simp only [yL] at hc))
  exact hPost _ _ hS
 repeat' (first|(exfalso;omega)|refine zz6 @g189.eq_1 @f0 @f1 @f2 @f3 @f8 ?_|(refine zh (fun hc=>?_) (fun hc=>?_)<;>try simp only [yL] at hc))
 refine GW_loop (fun k fr H2=>k=0∧fr.get 0=some (v)∧fr.get 1=some (.int .i64 0)∧fr.get 2=some (.int .i64 E.length)∧fr.get 3=some (.func (.func 97) #[] #[])∧fr.get 8=some (.int .i64 i)∧fr.get 9=some (.int .i64 i)∧H2=H1) ?_ 0 ?_
 rotate_left
 ·refine ⟨rfl,?_⟩
  simp only [↓yG,Nat.reduceEqDiff,↓reduceIte,Int.natCast_add,Int.cast_ofNat_Int,Int.natCast_zero,true_and,and_true,Option.some.injEq,Value.int.injEq,f0,f1,f2,f3,f8]
 rintro k fr H2 ⟨rfl,f0,f1,f2,f3,f8,f9,rfl⟩ J2 hJ2
 have hv1:=hv.later hw hS
 have e1:=hv1.rowN hi
 have e2:=hv1.rowN (k:=i - 1) (by omega)
 have fa:=(hv1.at_ hi).rd.flat
 have fb:=(hv1.at_ (k:=i - 1) (by omega)).rd.flat
 have hlt:=hs i (by omega) hi
 have d0:decide (0 < (i:Int))=true:=decide_eq_true (by omega)
 have hi1:(i:Int) - 1=((i - 1:Nat):Int):=by omega
 repeat' (first|(exfalso;omega)|refine zz12 @g189.eq_1 @f0 @f1 @f2 @f3 @f8 @f9 @d0 hsl.ix @e1 @hi1 @e2 ?_|(refine zh (fun hc=>?_) (fun hc=>?_)<;>try simp only [yL] at hc))
 refine zc6 @f0 @f1 @f2 @f3 @f8 @f9 (sort1_ok hw1 fa fb) fun r3 H3 hq=>?_
 obtain ⟨⟨n,rfl,hn⟩,hS3⟩:=hq
 have dn:decide (n < 0)=false:=decide_eq_false fun h=>lessE_no hlt (hn.1 h)
 repeat' (first|refine zz8 @g189.eq_1 @f0 @f1 @f2 @f3 @f8 @f9 @dn ?_|(refine zh (fun hc=>?_) (fun hc=>?_)<;>try simp only [yL] at hc))
 refine hJ _ _ ⟨E.length - (i+1),by omega,i+1,rfl,by omega,.inl hi,?_⟩
 simp only [↓yG,Nat.reduceEqDiff,↓reduceIte,Int.natCast_add,Int.cast_ofNat_Int,Int.natCast_zero,true_and,and_true,Option.some.injEq,Value.int.injEq,f0,f1,f2,f3]
 exact hS.trans hS3
theorem stableF_ok {H:GHeap} (hw:H.wf) {v:Value} {E:List Ev} (hv:EvR H v E) (hs:Sorted E) (hl:E.length≤16):
 ∃ r H',gev G 157 [v,.int .i64 E.length,.func (.func 97) #[] #[]] H=some (r,H')∧Same H H':=by
 refine gev_GW (f:=157) rfl fun Post hPost=>?_
 have hlim:=hw.1
 have d0:decide (20≤(E.length:Int))=false:=decide_eq_false (by omega)
 have d1:decide (20 < (E.length:Int))=false:=decide_eq_false (by omega)
 simp only [frameOf,Nat.reduceAdd]
 repeat' (first|refine zz1 @g157.eq_1 ?_|(refine zh (fun hc=>?_) (fun hc=>?_)<;>try simp only [yL] at hc))
 refine GW_loop (fun k fr H1=>k=0∧fr.get 0=some (v)∧fr.get 1=some (.int .i64 E.length)∧fr.get 2=some (.func (.func 97) #[] #[])∧fr.get 6=some (.int .i64 20)∧fr.get 7=some (.int .i64 0)∧fr.get 8=some (.int .i64 20)∧H1=H) ?_ 0 ?_
 rotate_left
 ·refine ⟨rfl,?_⟩
  simp only [↓yG,Nat.reduceEqDiff,↓reduceIte,Int.natCast_add,Int.cast_ofNat_Int,Int.natCast_zero,true_and,and_true,Option.some.injEq,Value.int.injEq]
 rintro k fr H1 ⟨rfl,f0,f1,f2,f6,f7,f8,rfl⟩ J hJ
 repeat' (first|(exfalso;omega)|refine zz8 @g157.eq_1 @f0 @f1 @f2 @f6 @f7 @f8 @d0 ?_|(refine zh (fun hc=>?_) (fun hc=>?_)<;>try simp only [yL] at hc))
 refine zc6 @f0 @f1 @f2 @f6 @f7 @f8 (insort_ok hw hv hs (by omega)) fun r3 H3 hS=>?_
 repeat' (first|refine zz7 @g157.eq_1 @f0 @f1 @f2 @f6 @f7 @f8 ?_|(refine zh (fun hc=>?_) (fun hc=>?_)<;>try simp only [yL] at hc))
 refine GW_loop (fun k fr H2=>k=0∧fr.get 0=some (v)∧fr.get 1=some (.int .i64 E.length)∧fr.get 2=some (.func (.func 97) #[] #[])∧fr.get 6=some (.int .i64 20)∧H2=H3) ?_ 0 ?_
 rotate_left
 ·refine ⟨rfl,?_⟩
  simp only [↓yG,Nat.reduceEqDiff,↓reduceIte,Int.natCast_add,Int.cast_ofNat_Int,Int.natCast_zero,true_and,and_true,Option.some.injEq,Value.int.injEq,f0,f1,f2,f6]
 rintro k fr H2 ⟨rfl,f0,f1,f2,f6,rfl⟩ J2 hJ2
 repeat' (first|(exfalso;omega)|refine zz6 @g157.eq_1 @f0 @f1 @f2 @f6 @d1 ?_|(refine zh (fun hc=>?_) (fun hc=>?_)<;>try simp only [yL] at hc))
 exact hPost _ _ hS
theorem stable_ok {H:GHeap} (hw:H.wf) {v:Value} {E:List Ev} (hv:EvR H v E) (hs:Sorted E) (hl:E.length≤16):
 ∃ r H',gev G 96 [v,.func (.func 97) #[] #[]] H=some (r,H')∧Same H H':=by
 refine gev_GW (f:=96) rfl fun Post hPost=>?_
 have hlim:=hw.1
 have hsl:=hv.rd.rd.isSl
 simp only [frameOf,Nat.reduceAdd]
 repeat' (first|refine zz2 @g96.eq_1 hsl.len ?_|(refine zh (fun hc=>?_) (fun hc=>?_)<;>try simp only [yL] at hc))
 refine zc0 (stableF_ok hw hv hs hl) fun r1 H1 hS=>?_
 repeat' (first|refine zz1 @g96.eq_1 ?_|(refine zh (fun hc=>?_) (fun hc=>?_)<;>try simp only [yL] at hc))
 exact hPost _ _ hS
def EvAll (E:List Ev) (X:List Ev):Prop:=X.length=E.length∧∀ i,i < E.length→X[i]! =evWith E[i]! X[i]!.v X[i]!.L∧X[i]!.L.map (·.2)=E[i]!.L.map (·.2)
theorem EvAll.sorted {E X:List Ev} (h:EvAll E X) (hs:Sorted E):Sorted X:=fun i h0 h1=>by
 rw [h.1] at h1
 have:=hs i h0 h1
 unfold lessE at this ⊢
 rw [(h.2 i h1).1,(h.2 (i - 1) (by omega)).1]
 exact this
theorem sort_ok {H:GHeap} (hw:H.wf) {v:Value} {E:List Ev} (hv:EvR H v E) (hs:Sorted E) (hl:E.length≤16) (hsm:∀ e ∈ E,smE e):
 ∃ r H',gev G 43 [v] H=some (r,H')∧∃ X,EvO H H' r X∧EvAll E X:=by
 refine gev_GW (f:=43) rfl fun Post hPost=>?_
 have hlim:=hw.1
 have hsl:=hv.rd.rd.isSl
 simp only [frameOf,Nat.reduceAdd]
 repeat' (first|refine zz2 @g43.eq_1 hsl.len ?_|(refine zh (fun hc=>?_) (fun hc=>?_)<;>try simp only [yL] at hc))
 refine GW_loop (fun k fr K=>∃ (j:Nat) (w:Value) (X:List Ev),k=E.length - j∧j≤E.length∧fr.get 3=some (w)∧fr.get 6=some (v)∧fr.get 7=some (.int .i64 E.length)∧fr.get 8=some (.int .i64 j)∧EvO H K w X∧X.length=j∧∀ i,i < j→X[i]! =evWith E[i]! X[i]!.v X[i]!.L∧X[i]!.L.map (·.2)=E[i]!.L.map (·.2)) ?_ E.length ?_
 rotate_left
 ·refine ⟨0,.slice none 0 0,[],by omega,by omega,?_⟩
  simp only [↓yG,Nat.reduceEqDiff,↓reduceIte,Int.natCast_add,Int.cast_ofNat_Int,Int.natCast_zero,true_and,and_true,Option.some.injEq,Value.int.injEq]
  exact ⟨⟨OS.nil (Same.refl hw),fun e he=>by cases he⟩,rfl,fun i hi=>by omega⟩
 rintro k fr K ⟨j,w,X,rfl,hj,f3,f6,f7,f8,hO,hX,hall⟩ J hJ
 have hS:=hO.own.same
 have hwK:=hS.wf
 have hlimK:=hwK.1
 by_cases hj1:j < E.length
 case neg=>
  obtain rfl:j=E.length:=by omega
  repeat' (first|(exfalso;omega)|refine zz5 @g43.eq_1 @f3 @f6 @f7 @f8 ?_|(refine zh (fun hc=>?_) (fun hc=>?_)<;>try simp only [yL] at hc))
  refine zc1 @f3 (stable_ok hwK hO.evr (EvAll.sorted ⟨hX,hall⟩ hs) (by omega)) fun r1 H1 hS1=>?_
  repeat' (first|refine zz2 @g43.eq_1 @f3 ?_|(refine zh (fun hc=>?_) (fun hc=>?_)<;>try simp only [yL] at hc))
  exact hPost _ _ ⟨X,hO.later hS1,hX,hall⟩
 have hvK:=hv.later hw hS
 have e1:=hvK.rowN hj1
 have hT:=hvK.at_ hj1
 have hse:=hsm _ (bang_mem hj1)
 have hnx:∀ y:Ev,(y=evWith E[j]! y.v y.L∧y.L.map (·.2)=E[j]!.L.map (·.2))→∀ i,i < j+1→(X ++ [y])[i]! =evWith E[i]! (X ++ [y])[i]!.v (X ++ [y])[i]!.L∧(X ++ [y])[i]!.L.map (·.2)=E[i]!.L.map (·.2):=fun y hy i hi=>by
  by_cases h:i=j
  ·subst h
   rw [← hX,getE_last,hX];exact hy
  ·rw [getE_snoc (by omega)];exact hall i (by omega)
 generalize E[j]! =e at *
 have gse:=gsetn_ev (cs:=zEv) (e:=e) rfl hT.rd.flat
 obtain ⟨H4,hH4⟩:∃ H4,H4=(K.add (some (.cells zEv 0 true))).put K.len (.cells (evC e) 0 true):=⟨_,rfl⟩
 have hS4:Same K H4:=hH4 ▸ (Same.refl hwK).new _ _
 have m5:H4.mine K.len=some (evC e,0):=by rw [hH4,mine_put_same (by rw [lim_add];exact hlimK)]
 have hHs:=hH4.symm
 clear hH4
 have p5:H4.rdn K.len 0 7=some (evV e):=rdn_mine m5 rfl
 repeat' (first|(exfalso;omega)|refine zz10 @g43.eq_1 @f3 @f6 @f7 @f8 hsl.ix @e1 @gse @hHs @p5 ?_|(refine zh (fun hc=>?_) (fun hc=>?_)<;>try simp only [yL] at hc))
 refine zc4 @f3 @f6 @f7 @f8 (eclone_ok hS4.wf (hT.later hwK hS4) hse) fun r5 H5 hq=>?_
 obtain ⟨v',L,rfl,hT5,hL⟩:=hq
 have hS5:=hS4.trans hT5.own.same
 have fe:=fill_ev (e:=evWith e v' L) hT5.sl
 obtain ⟨w',H6,e6,hO6,_,_⟩:=(hO.later hS5).snoc (e:=evWith e v' L) (hT5.weaken (hS.trans hS4)) (by omega)
 have hlim5:=hT5.own.same.wf.1
 repeat' (first|refine zz7 @g43.eq_1 @f3 @f6 @f7 @f8 @fe @e6 ?_|(refine zh (fun hc=>?_) (fun hc=>?_)<;>try simp only [yL] at hc))
 refine hJ _ _ ⟨E.length - (j+1),by omega,j+1,w',X ++ [evWith e v' L],rfl,by omega,?_⟩
 simp only [↓yG,Nat.reduceEqDiff,↓reduceIte,Int.natCast_add,Int.cast_ofNat_Int,Int.natCast_zero,true_and,and_true,Option.some.injEq,Value.int.injEq,f6,f7]
 exact ⟨hO6,by simp [hX],hnx _ ⟨rfl,hL⟩⟩
end Go.Gh
end
