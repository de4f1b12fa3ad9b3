/-
  Parts of the proof: walks of the ghost functions and the laws of what they compute. No condition.
-/
import Derived.Test.YtjjcgaompnjbdaaGreatDoorQ13
section
namespace Go.Gh
set_option linter.unusedSimpArgs false
set_option linter.unusedVariables false
set_option maxHeartbeats 4000000
open Go.RowKit
set_option maxRecDepth 4000
theorem GArg1.preN {H:GHeap} {v:Value} {α:Type} {f:α→List Value} {s:Nat} {l:List α} (hf:∀ x,(f x).length=s) (hv:GArg1 H s v l.length (l.flatMap f)) (m:Nat):
 ∃ v',gslice (.sl s) H v none (some (.int .i64 (min (l.length:Int) m))) none=some v'∧GArg1 H s v' (l.take m).length ((l.take m).flatMap f):=by
 obtain ⟨v',e1,e2,_⟩:=hv.cut (k:=.i64) (a:=0) (b:=min (l.length:Int) m) (Int.le_refl 0) (by omega) (by omega)
 refine ⟨v',?_,?_⟩
 ·rw [gslice_lo0 (k:=.i64) (by intro x hx;cases hx;exact ⟨_,_,rfl⟩)];exact e1
 have h20:(min (l.length:Int) m).toNat - (0:Int).toNat=(l.take m).length:=by rw [List.length_take];omega
 rw [h20] at e2
 have e4:((l.flatMap f).drop ((0:Int).toNat * s)).take ((l.take m).length * s)=(l.take m).flatMap f:=by
  rw [show (0:Int).toNat * s=0 by simp,List.drop_zero]
  by_cases hm:m≤l.length
  ·rw [List.length_take,Nat.min_eq_left hm];exact (rows_split hf l m).1
  ·rw [List.take_of_length_le (l:=l) (by omega),List.take_of_length_le (by rw [rows_len hf];exact Nat.le_refl _)]
 rw [e4] at e2
 exact e2
theorem few_ok {K H:GHeap} (hwK:K.wf) (hKH:Same K H) {d:Dc} (hd:DcR K d) (hs:SmD d):∃ r H',gev G 10 [dcV d] H=some (r,H')∧∃ x,r=dcV x∧DcR K x∧SmD x∧Same H H'∧(colD d→colD x)∧x.E.length≤4:=by
 have hw:=hKH.wf
 refine gev_GW (f:=10) rfl fun Post hPost=>?_
 have hlim:=hw.1
 have fd:=dc_cflat hd
 simp only [frameOf,Nat.reduceAdd]
 obtain ⟨H1,hH1⟩:∃ H1,H1=(H.add (some (.cells (dcC d) 0 true))).add (some (.cells zDc 0 true)):=⟨_,rfl⟩
 have hS1:Same H H1:=hH1 ▸ ((Same.refl hw).add _).add _
 have hl1:H1.len=H.len+2:=by rw [hH1];simp only [len_add]
 have hw1:=hS1.wf
 have m0:H1.mine H.len=some (dcC d,0):=by rw [hH1,mine_add_ne (by rw [len_add];omega),mine_add_eq rfl hw.1]
 have m1:H1.mine (H.len+1)=some (zDc,0):=by rw [hH1,mine_add_eq (by rw [len_add]) (by rw [lim_add];omega)]
 have q5:H1.rd H.len 5=some d.rv:=rd_mine m0 _
 have q6:H1.rd H.len 6=some d.ev:=rd_mine m0 _
 have q7:H1.rd H.len 7=some d.cv:=rd_mine m0 _
 obtain ⟨ev,e1,hE⟩:=GArg1.preN evC_len hd.ev.rd 4
 obtain ⟨cv,e2,hC⟩:=GArg1.preN cmC_len hd.cm 3
 obtain ⟨rv,e3,hR⟩:=GArg1.preN rgC_len hd.rg 4
 have e1:gslice (.sl 7) H1 d.ev none (some (.int .i64 (min (d.E.length:Int) 4))) none=some ev:=by rw [hd.ev.rd.gslice_same hwK (hKH.trans hS1)];exact e1
 have e2:gslice (.sl 8) H1 d.cv none (some (.int .i64 (min (d.C.length:Int) 3))) none=some cv:=by rw [hd.cm.gslice_same hwK (hKH.trans hS1)];exact e2
 have e3:gslice (.sl 7) H1 d.rv none (some (.int .i64 (min (d.R.length:Int) 4))) none=some rv:=by rw [hd.rg.gslice_same hwK (hKH.trans hS1)];exact e3
 have l1:=hd.ev.rd.rd.isSl.len
 have l2:=hd.cm.rd.isSl.len
 have l3:=hd.rg.rd.isSl.len
 obtain ⟨x,hx⟩:∃ x:Dc,x={ d with ev:=ev,E:=d.E.take 4,cv:=cv,C:=d.C.take 3,rv:=rv,R:=d.R.take 4 }:=⟨_,rfl⟩
 have s1:gst none H1 (.pointer (some ⟨H.len,6,none⟩)) ev=some (H1.put H.len (.cells (dcC { d with ev:=ev }) 0 true)):=by
  rw [gst_1,m0,Option.bind_some,gset_ok (by simp [dcC]) hE.flat];rfl
 have n1:(H1.put H.len (.cells (dcC { d with ev:=ev }) 0 true)).mine H.len=some (dcC { d with ev:=ev },0):=mine_put_same (mine_obj m0).1
 have s2:gst none (H1.put H.len (.cells (dcC { d with ev:=ev }) 0 true)) (.pointer (some ⟨H.len,7,none⟩)) cv=some (H1.put H.len (.cells (dcC { d with ev:=ev,cv:=cv }) 0 true)):=by
  rw [gst_1,n1,Option.bind_some,gset_ok (by simp [dcC]) hC.flat,Option.bind_some,put_put];rfl
 have n2:(H1.put H.len (.cells (dcC { d with ev:=ev,cv:=cv }) 0 true)).mine H.len=some (dcC { d with ev:=ev,cv:=cv },0):=mine_put_same (mine_obj m0).1
 have s3:gst none (H1.put H.len (.cells (dcC { d with ev:=ev,cv:=cv }) 0 true)) (.pointer (some ⟨H.len,5,none⟩)) rv=some (H1.put H.len (.cells (dcC x) 0 true)):=by
  rw [gst_1,n2,Option.bind_some,gset_ok (by simp [dcC]) hR.flat,Option.bind_some,put_put,hx];rfl
 have n3:(H1.put H.len (.cells (dcC x) 0 true)).mine (H.len+1)=some (zDc,0):=(mine_put_ne (by omega)).trans m1
 have r3:(H1.put H.len (.cells (dcC x) 0 true)).rdn H.len 0 8=some (dcV x):=rdn_dcp
 have gs8:gsetn zDc 0 8 (dcV x)=some (dcC x):=gsetn_all rfl rfl (by
  have f1:=hE.flat
  have f2:=hC.flat
  have f3:=hR.flat
  rw [hx];simp [flatV_int,flatV_str,flatV_bool,f1,f2,f3])
 have hw2:(H1.put H.len (.cells (dcC x) 0 true)).len=H.len+2:=by rw [len_put,hl1]
 have hSf:Same H ((H1.put H.len (.cells (dcC x) 0 true)).put (H.len+1) (.cells (dcC x) 0 true)):=(hS1.put (Nat.le_refl _) (by omega) _).put (by omega) (by omega) _
 repeat' (first|refine zz19 @g10.eq_1 @RDc @fd hH1.symm @q5 @q6 @q7 @l1 @l2 @l3 @e1 @e2 @e3 @s1 @s2 @s3 @n3 @r3 @gs8 ?_|(refine zh (fun hc=>?_) (fun hc=>?_)<;>try simp only [yL] at hc))
 refine hPost _ _ ⟨x,rfl,?_,?_,hSf,?_,?_⟩
 ·rw [hx]
  exact ⟨hR,⟨hE,fun e he=>hd.ev.rows e (List.mem_of_mem_take he)⟩,hC⟩
 ·rw [hx]
  have t1:=List.length_take_le 4 d.R
  have t2:=List.length_take_le 4 d.E
  have t3:=List.length_take_le 3 d.C
  exact ⟨hs.ti,hs.la,hs.rt,⟨by show (d.R.take 4).length≤_;omega,fun r hr=>hs.R.2 r (List.mem_of_mem_take hr)⟩,⟨by show (d.E.take 4).length≤_;omega,fun r hr=>hs.E.2 r (List.mem_of_mem_take hr)⟩,⟨by show (d.C.take 3).length≤_;omega,fun r hr=>hs.C.2 r (List.mem_of_mem_take hr)⟩⟩
 ·rw [hx]
  exact fun h e he=>h e (List.mem_of_mem_take he)
 ·rw [hx];exact List.length_take_le 4 d.E
end Go.Gh
end
section
namespace Go.Gh
set_option linter.unusedSimpArgs false
set_option linter.unusedVariables false
set_option maxHeartbeats 4000000
open Go.RowKit
set_option maxRecDepth 4000
theorem runs_k {H:GHeap} {v:Value} (h:RdAQ Qs H (.sl runShp) v):∃ l:List SR,RR H v l∧smR l∧∀ x ∈ l,0≤x.s.c:=by
 obtain ⟨l,k1,k2,k3⟩:=h.slP_ (f:=runC) (p:=fun x=>(x.t.length≤1048576∧x.y.length≤1048576)∧0≤x.s.c) fun r hr=>by
  simp only [runShp,RdSQ,RdSsQ] at hr
  obtain ⟨_,_,rfl,⟨s,rfl,_,q1⟩,_,_,rfl,⟨_,_,rfl,⟨c,rfl,q3⟩,_,_,rfl,⟨i,rfl⟩,_,_,rfl,⟨u,rfl⟩,rfl⟩,_,_,rfl,⟨y,rfl,_,q2⟩,rfl⟩:=hr
  exact ⟨⟨s.data.toList,⟨c,i,u⟩,y.data.toList⟩,by simp [runC,strB_of],⟨by simpa [Qs] using q1,by simpa [Qs] using q2⟩,(wf_u8 q3).1⟩
 exact ⟨l,k1,⟨k2,fun x hx=>(k3 x hx).1⟩,fun x hx=>(k3 x hx).2⟩
theorem rows_k {H:GHeap} {v:Value} (h:RdAQ Qs H (.sl (.st [.sl runShp])) v):∃ L:List VR',TR H v L∧L.length≤1048576∧∀ x ∈ L,smR x.2∧∀ r ∈ x.2,0≤r.s.c:=by
 obtain ⟨L,k1,k2,k3⟩:=h.slP_ (f:=fun x:VR'=>[x.1]) (p:=fun x=>RR H x.1 x.2∧smR x.2∧∀ r ∈ x.2,0≤r.s.c) fun r hr=>by
  simp only [RdSQ,RdSsQ] at hr
  obtain ⟨a,b,rfl,h1,rfl⟩:=hr
  obtain ⟨w,rfl,h2⟩:=sl_of (s:=runShp) (by simpa only [RdSQ] using h1)
  obtain ⟨l,h3,h4⟩:=runs_k h2
  exact ⟨(w,l),rfl,h3,h4⟩
 refine ⟨L,⟨?_,fun x hx=>(k3 x hx).1⟩,k2,fun x hx=>(k3 x hx).2⟩
 have e:∀ L:List VR',L.flatMap (fun x:VR'=>[x.1])=L.map (·.1):=by
  intro L
  induction L with
  |nil=>rfl
  |cons x L ih=>rw [List.flatMap_cons,ih];rfl
 rw [← e];exact k1
theorem evs_k {H:GHeap} {v:Value} (h:RdAQ Qs H (.sl evShp) v):∃ l:List Ev,EvR H v l∧l.length≤1048576∧∀ e ∈ l,smE e∧∀ x ∈ e.L,∀ r ∈ x.2,0≤r.s.c:=by
 obtain ⟨l,k1,k2,k3⟩:=h.slP_ (f:=evC) (p:=fun e=>TR H e.v e.L∧smE e∧∀ x ∈ e.L,∀ r ∈ x.2,0≤r.s.c) fun r hr=>by
  simp only [evShp,RdSsQ] at hr
  unfold RdSQ at hr
  simp only [RdSsQ] at hr
  obtain ⟨_,_,rfl,h1,_,_,rfl,h2,_,_,rfl,h3,_,_,rfl,h4,_,_,rfl,h5,_,_,rfl,h6,rfl⟩:=hr
  simp only [RdSQ,RdSsQ] at h1 h2 h3 h4 h5
  obtain ⟨a,rfl,_⟩:=h1
  obtain ⟨_,_,rfl,⟨b,rfl,_⟩,_,_,rfl,⟨c,rfl,_⟩,rfl⟩:=h2
  obtain ⟨s,rfl,_,q1⟩:=h3
  obtain ⟨k,rfl,q2⟩:=h4
  obtain ⟨u,rfl,_,q3⟩:=h5
  obtain ⟨w,rfl,h7⟩:=sl_of h6
  obtain ⟨L,m1,m2,m3⟩:=rows_k h7
  exact ⟨⟨a,b,c,s.data.toList,k,u.data.toList,w,L⟩,by simp [evC,strB_of],m1,⟨by simpa [Qs] using q1,by simpa [Qs] using q3,wf_u8 q2,m2,fun x hx=>(m3 x hx).1⟩,fun x hx=>(m3 x hx).2⟩
 exact ⟨l,⟨k1,fun e he=>(k3 e he).1⟩,k2,fun e he=>(k3 e he).2⟩
theorem dc_k {H:GHeap} {gv:Value} (h:RdAQ Qs H dcShp gv):∃ d,gv=dcV d∧DcR H d∧SmD d∧colD d:=by
 simp only [dcShp,RdAQ,RdSsQ] at h
 obtain ⟨gs,rfl,_,_,rfl,h1,_,_,rfl,h2,_,_,rfl,h3,_,_,rfl,h4,_,_,rfl,h5,_,_,rfl,h6,_,_,rfl,h7,_,_,rfl,h8,rfl⟩:=h
 obtain ⟨rv,rfl,m6⟩:=sl_of h6
 obtain ⟨ev,rfl,m7⟩:=sl_of h7
 obtain ⟨cv,rfl,m8⟩:=sl_of h8
 simp only [RdSQ] at h1 h2 h3 h4 h5
 obtain ⟨s,rfl,_,q1⟩:=h1
 obtain ⟨u,rfl,_,q2⟩:=h2
 obtain ⟨r,rfl,q3⟩:=h3
 obtain ⟨b,rfl⟩:=h4
 obtain ⟨n,rfl,_⟩:=h5
 obtain ⟨R,a1,a2⟩:=regs_of m6
 obtain ⟨E,b1,b2⟩:=evs_k m7
 obtain ⟨C,c1,c2⟩:=cms_of m8
 exact ⟨⟨s.data.toList,u.data.toList,r,b,n,rv,R,ev,E,cv,C⟩,by simp [dcV,strB_of],⟨a1,b1,c1⟩,⟨by simpa [Qs] using q1,by simpa [Qs] using q2,wf_u8 q3,a2,⟨b2.1,fun e he=>(b2.2 e he).1⟩,c2⟩,fun e he=>(b2.2 e he).2⟩
theorem DcR.up {H:GHeap} {d:Dc} (h:DcR H d):DcR H.up d:=⟨GArg1.up h.rg,h.ev.up,GArg1.up h.cm⟩
theorem DcO.down {H H':GHeap} {x:Dc} (hw:H.wf) (h:DcO H.up H' x):DcO H (H'.down H.lim) x:=
 ⟨OS.down hw h.rg,⟨OS.down hw h.ev.own,fun e he=>(h.ev.rows e he).down hw⟩,h.dis,h.cv,h.C⟩
theorem plain_len {l:List SR} (h:RowG l):(plainF l).length≤10000:=by
 rw [plainF_chars h.v]
 have e:((charsR l).flatMap fun p=>encL p.1)=((charsR l).map (·.1)).flatMap encL:=by rw [List.flatMap_map]
 have hc:=h.cnt
 rw [← charsR_len] at hc
 have h1:∀ c ∈ (charsR l).map (·.1),c ∈ REP:=fun c hc=>by
  obtain ⟨p,hp,rfl⟩:=List.mem_map.1 hc
  obtain ⟨x,hx,hp⟩:=List.mem_flatMap.1 hp
  obtain ⟨n,hn,rfl⟩:=List.mem_map.1 hp
  exact (chs_of (h.v x hx)).2 n hn
 have h2:=enc_le h1
 rw [e]
 rw [List.length_map] at h2
 omega
theorem red_eq {d y x:Dc} (hy:RedD d d.E.length y) (hx:RedD d d.E.length x):h5V y=h5V x∧y.R=x.R∧∀ j,j < d.E.length→EqE y.E[j]! x.E[j]!:=by
 refine ⟨by rw [h5V,h5V,hy.ti,hy.la,hy.rt,hy.dr,hy.last,hx.ti,hx.la,hx.rt,hx.dr,hx.last],by rw [hy.R,hx.R],fun j hj=>?_⟩
 have a:=hy.E j hj
 have b:=hx.E j hj
 exact ⟨by rw [a.id,b.id],by rw [a.i,b.i],by rw [a.o,b.o],by rw [a.rg,b.rg],by rw [a.kd,b.kd],by rw [a.sp,b.sp],by rw [a.rows,b.rows]⟩
theorem red_len {d y:Dc} (hy:RedD d d.E.length y) {j:Nat} (hj:j < d.E.length):y.E[j]!.L.length=d.E[j]!.L.length:=by
 have:=congrArg List.length (hy.E j hj).rows
 simpa [Ev.rows] using this
theorem red_tx {d y:Dc} (hac:∀ j,j < d.E.length→AccE d j) (hy:RedD d d.E.length y) {j:Nat} (hj:j < d.E.length):TxE y.E[j]! d.E[j]!:=by
 have a:=hy.E j hj
 have hr:=acc_rows (hac j hj)
 have hp:=(hac j hj).pl
 have hl:=red_len hy hj
 refine ⟨a.i.symm,a.o.symm,?_,by rw [hl];exact ⟨hp.n1,hp.n4⟩,⟨hp.n1,hp.n4⟩,fun l h=>?_,fun l h=>plain_len (hr l h)⟩
 ·rw [a.rows,List.map_map]
  exact List.map_congr_left fun l h=>(bareF_plain (hr l h)).1.symm
 ·rw [a.rows] at h
  obtain ⟨l0,h0,rfl⟩:=List.mem_map.1 h
  exact plain_len (bareF_row (hr l0 h0))
theorem encB_len {d:Dc} (hac:∀ j,j < d.E.length→AccE d j) (ha:accOk d) (hE:d.E.length≤16):(encB d).length≤100000:=by
 have h2:=(blE_len hac _ (Nat.le_refl _)).2
 rw [encB,List.length_append,fmB_len fun b hb=>(blE_ok hac (Nat.le_refl _) b hb).1,hdB_len (hdE_ok ha hac hE _)]
 omega
theorem carried_ok {H:GHeap} (hw:H.wf) {d0:Dc} (hd0:DcR H d0) (hs0:SmD d0) (hc0:colD d0):∃ r H',gev G 4 [dcV d0] H=some (r,H')∧r=.bool true:=by
 refine gev_GW (f:=4) rfl fun Post hPost=>?_
 have hlim:=hw.1
 have fd0:=dc_cflat hd0
 simp only [frameOf,Nat.reduceAdd]
 have hyes:∀ H',Post (.bool true) H':=fun H'=>hPost _ H' rfl
 clear hPost
 repeat' (first|refine zz3 @g4.eq_1 @RDc @fd0 ?_|(refine zh (fun hc=>?_) (fun hc=>?_)<;>try simp only [yL] at hc))
 have hS1:Same H (H.add (some (.cells (dcC d0) 0 true))):=(Same.refl hw).add _
 have m1:(H.add (some (.cells (dcC d0) 0 true))).mine H.len=some (dcC d0,0):=mine_add_eq rfl hlim
 generalize H.add (some (.cells (dcC d0) 0 true))=H1 at *
 refine zc0 (few_ok hw hS1 hd0 hs0) fun r2 H2 hq=>?_
 obtain ⟨d,rfl,hd,hs,hS12,hcd,hE4⟩:=hq
 have hc:=hcd hc0
 have hS2:=hS1.trans hS12
 have m12:=(hS12.mine (mine_lt hS1.wf m1)).trans m1
 have gsd:gsetn (dcC d0) 0 8 (dcV d)=some (dcC d):=gsetn_all rfl rfl (by
  have f1:=hd.rg.flat
  have f2:=hd.ev.rd.flat
  have f3:=hd.cm.flat
  simp [flatV_int,flatV_str,flatV_bool,f1,f2,f3])
 obtain ⟨H3,hH3⟩:∃ Z,Z=H2.put H.len (.cells (dcC d) 0 true):=⟨_,rfl⟩
 have hS3:Same H H3:=hH3 ▸ hS2.put (Nat.le_refl _) (mine_lt hS2.wf m12) _
 have m13:H3.mine H.len=some (dcC d,0):=by rw [hH3,mine_put_same (mine_obj m12).1]
 have hHs3:=hH3.symm
 clear hH3
 have p13:H3.rdn H.len 0 8=some (dcV d):=rdn_mine m13 rfl
 have hw3:=hS3.wf
 have z0:decide (¬ True)=false:=rfl
 repeat' (first|refine zz5 @g4.eq_1 @m12 @gsd @hHs3 @p13 ?_|(refine zh (fun hc=>?_) (fun hc=>?_)<;>try simp only [yL] at hc))
 by_cases ha:accOk d
 case neg=>
  refine zc0 (encode_no hw3 (hd.later hw hS3) hs (by omega) ha) fun r4 H4 hq=>?_
  obtain ⟨_,n,hn,rfl⟩:=hq
  have dn:decide (¬ n=0)=true:=decide_eq_true hn
  repeat' (first|refine zz2 @g4.eq_1 @dn ?_|(refine zh (fun hc=>?_) (fun hc=>?_)<;>try simp only [yL] at hc))
  exact hyes _
 have hac:∀ j,j < d.E.length→AccE d j:=fun j hj=>acc_ev hs hc ha (by omega) hj
 refine zc0 (encode_yes hw3 (hd.later hw hS3) hs hc (by omega) ha) fun r4 H4 hq=>?_
 obtain ⟨w,rfl,hO4⟩:=hq
 have hS34:=hO4.same
 have m14:=(hS34.mine (mine_lt hw3 m13)).trans m13
 repeat' (first|refine zz2 @g4.eq_1 @z0 ?_|(refine zh (fun hc=>?_) (fun hc=>?_)<;>try simp only [yL] at hc))
 refine zc0 (decode_yes hS34.wf hs hc ha (by omega) hO4.rb) fun r5 H5 hq=>?_
 obtain ⟨y,rfl,hOy,hRy⟩:=hq
 have hok:=red_ok hs hc ha (by omega) hRy hOy.C
 have sy:=red_sm hs hac (by omega) hRy hOy.C
 have hyl:y.E.length=d.E.length:=hRy.len
 have hS45:=hOy.rg.same
 have hw5:=hS45.wf
 have hlim5:=hw5.1
 have hO5:=hO4.later hS45
 have m15:=(hS45.mine (mine_lt hS34.wf m14)).trans m14
 have fy:=dc_cflat hOy.dcr
 have gsy:gsetn zDc 0 8 (dcV y)=some (dcC y):=gsetn_all rfl rfl (by
  have f1:=hOy.rg.flat
  have f2:=hOy.ev.own.flat
  have f3:flatV y.cv=true:=by rw [hOy.cv];rfl
  simp [flatV_int,flatV_str,flatV_bool,f1,f2,f3])
 obtain ⟨H6,hH6⟩:∃ Z,Z=(H5.add (some (.cells zDc 0 true))).put H5.len (.cells (dcC y) 0 true):=⟨_,rfl⟩
 have hS56:Same H5 H6:=hH6 ▸ (Same.refl hw5).new _ _
 have m56:H6.mine H5.len=some (dcC y,0):=by rw [hH6,mine_put_same (by rw [lim_add];exact hlim5)]
 have hHs6:=hH6.symm
 clear hH6
 have p56:H6.rdn H5.len 0 8=some (dcV y):=rdn_mine m56 rfl
 have m16:=(hS56.mine (mine_lt hw5 m15)).trans m15
 have hw6:=hS56.wf
 have hOy6:=hOy.later hS56
 repeat' (first|refine zz4 @g4.eq_1 @gsy @hHs6 @p56 ?_|(refine zh (fun hc=>?_) (fun hc=>?_)<;>try simp only [yL] at hc))
 refine zc0 (encode_yes hw6 hOy6.dcr sy hok.col (by omega) hok.acc) fun r7 H7 hq=>?_
 obtain ⟨w2,rfl,hO7⟩:=hq
 rw [hok.bytes] at hO7
 have hS67:=hO7.same
 have hw7:=hS67.wf
 have hOy7:=hOy6.later hS67
 have hS37:=hS34.trans (hS45.trans (hS56.trans hS67))
 have hd7:=hd.later hw (hS3.trans hS37)
 have m17:=(hS67.mine (mine_lt hw6 m16)).trans m16
 have m57:=(hS67.mine (mine_lt hw6 m56)).trans m56
 have p17:H7.rdn H.len 0 8=some (dcV d):=rdn_mine m17 rfl
 have p57:H7.rdn H5.len 0 8=some (dcV y):=rdn_mine m57 rfl
 have hOw:=hO5.later (hS56.trans hS67)
 repeat' (first|refine zz4 @g4.eq_1 @z0 @p17 @p57 ?_|(refine zh (fun hc=>?_) (fun hc=>?_)<;>try simp only [yL] at hc))
 refine zm0 (reduce_ok (wf_up hw7) hd7.up hs ha.1 (by omega)) fun r8 H8 hq=>?_
 obtain ⟨x,rfl,hOx,hRx⟩:=hq
 have hOx:=hOx.down hw7
 generalize H8.down H7.lim=H9 at *
 have hS79:=hOx.rg.same
 have hw9:=hS79.wf
 have hxl:x.E.length=d.E.length:=hRx.len
 have sx:=red_sm hs hac (by omega) hRx hOx.C
 obtain ⟨hh,hRR,hEq⟩:=red_eq hRy hRx
 repeat' (first|refine zz2 @g4.eq_1 @z0 ?_|(refine zh (fun hc=>?_) (fun hc=>?_)<;>try simp only [yL] at hc))
 refine zm0 (dsame_ok (wf_up hw9) (hOy7.later hS79).dcr.up hOx.dcr.up sy sx hh hRR (by omega) (by omega) (fun j hj=>hEq j (by omega)) hOy.cv hOx.cv) fun r10 H10 hq=>?_
 obtain ⟨rfl,hS10⟩:=hq
 have hS10:=Same.down hw9 hS10
 generalize H10.down H9.lim=H11 at *
 have hw11:=hS10.wf
 have hS711:=hS79.trans hS10
 have p111:H11.rdn H.len 0 8=some (dcV d):=rdn_mine ((hS711.mine (mine_lt hw7 m17)).trans m17) rfl
 have p511:H11.rdn H5.len 0 8=some (dcV y):=rdn_mine ((hS711.mine (mine_lt hw7 m57)).trans m57) rfl
 repeat' (first|refine zz4 @g4.eq_1 @z0 @p111 @p511 ?_|(refine zh (fun hc=>?_) (fun hc=>?_)<;>try simp only [yL] at hc))
 refine zm0 (texts_ok (wf_up hw11) (hOy7.later hS711).dcr.up (hd7.later hw7 hS711).up sy hs hyl.symm (fun j hj=>red_tx hac hRy (by omega))) fun r12 H12 hq=>?_
 obtain ⟨rfl,hS12'⟩:=hq
 have hS12':=Same.down hw11 hS12'
 generalize H12.down H11.lim=H13 at *
 have hw13:=hS12'.wf
 have hS713:=hS711.trans hS12'
 repeat' (first|refine zz2 @g4.eq_1 @z0 ?_|(refine zh (fun hc=>?_) (fun hc=>?_)<;>try simp only [yL] at hc))
 have hb1:GRd H13.up 1 w (iU (encB d)).length (ints .u8 (iU (encB d))):=by
  rw [← iU_ints];simpa [iU] using (hOw.later hS713).rb.up.rd
 have hb2:GRd H13.up 1 w2 (iU (encB d)).length (ints .u8 (iU (encB d))):=by
  rw [← iU_ints];simpa [iU] using (hO7.later hS713).rb.up.rd
 have hel:(iU (encB d)).length≤4611686018427387904:=by
  have h1:=encB_len hac ha (by omega)
  simp only [iU,List.length_map];omega
 refine zm0 (equal_ok hb1 hb2 hel hel) fun r14 H14 hq=>?_
 obtain ⟨rfl,rfl⟩:=hq
 rw [updown]
 have hde:decide (iU (encB d)=iU (encB d))=true:=decide_eq_true rfl
 have m113:=(hS713.mine (mine_lt hw7 m17)).trans m17
 have m513:=(hS713.mine (mine_lt hw7 m57)).trans m57
 have q113:=rd_mine m113
 have hsE:=hd.ev.rd.rd.isSl
 repeat' (first|refine zz6 @g4.eq_1 @z0 @hde @RDc @q113 hsE.len ?_|(refine zh (fun hc=>?_) (fun hc=>?_)<;>try simp only [yL] at hc))
 have hOy13:=hOy7.later hS713
 have hd13:=hd7.later hw7 hS713
 refine GW_loop (fun k fr K=>∃ j:Nat,k=d.E.length - j∧j≤d.E.length∧fr.get 1=some (.pointer (some ⟨H.len,0,none⟩))∧fr.get 5=some (.pointer (some ⟨H5.len,0,none⟩))∧fr.get 68=some (.int .i64 d.E.length)∧fr.get 69=some (.int .i64 j)∧Same H13 K) ?_ d.E.length ?_
 rotate_left
 ·refine ⟨0,by omega,by omega,?_⟩
  simp only [↓yG,Nat.reduceEqDiff,↓reduceIte,Int.natCast_add,Int.cast_ofNat_Int,Int.natCast_zero,true_and,and_true,Option.some.injEq,Value.int.injEq]
  exact Same.refl hw13
 rintro k fr K ⟨j,rfl,hj,f1,f5,f68,f69,hSK⟩ J hJ
 have hwK:=hSK.wf
 by_cases hj1:j < d.E.length
 case neg=>
  repeat' (first|(exfalso;omega)|refine zz5 @g4.eq_1 @f1 @f5 @f68 @f69 ?_|(refine zh (fun hc=>?_) (fun hc=>?_)<;>try simp only [yL] at hc))
  exact hyes _
 have p1:K.rdn H.len 0 8=some (dcV d):=rdn_mine ((hSK.mine (mine_lt hw13 m113)).trans m113) rfl
 have p5:K.rdn H5.len 0 8=some (dcV y):=rdn_mine ((hSK.mine (mine_lt hw13 m513)).trans m513) rfl
 repeat' (first|(exfalso;omega)|refine zz6 @g4.eq_1 @f1 @f5 @f68 @f69 @p1 ?_|(refine zh (fun hc=>?_) (fun hc=>?_)<;>try simp only [yL] at hc))
 refine zm4 @f1 @f5 @f68 @f69 (hspots_ok (wf_up hwK) (hd13.later hw13 hSK).up hs hj1 (hac j hj1).pl) fun s1 K1 hO1=>?_
 have hO1:=OS.down hwK hO1
 generalize K1.down K.lim=K2 at *
 have hw2:=hO1.same.wf
 have hSK2:=hSK.trans hO1.same
 have p5:K2.rdn H5.len 0 8=some (dcV y):=rdn_mine ((hSK2.mine (mine_lt hw13 m513)).trans m513) rfl
 have hacy:AccE y j:=acc_ev sy hok.col hok.acc (by omega) (by omega)
 repeat' (first|refine zz6 @g4.eq_1 @f1 @f5 @f68 @f69 @p5 ?_|(refine zh (fun hc=>?_) (fun hc=>?_)<;>try simp only [yL] at hc))
 refine zm4 @f1 @f5 @f68 @f69 (hspots_ok (wf_up hw2) (hOy13.later hSK2).dcr.up sy (j:=j) (by omega) hacy.pl) fun s2' K3 hO2=>?_
 have hO2:=OS.down hw2 hO2
 generalize K3.down K2.lim=K4 at *
 have hNe:lensE y.E[j]! =lensE d.E[j]!:=by
  unfold lensE
  rw [(hRy.E j hj1).rows,List.map_map]
  exact List.map_congr_left fun l h=>(bareF_plain (acc_rows (hac j hj1) l h)).2
 rw [hNe,hok.rg j hj1] at hO2
 have hO1':=hO1.later hO2.same
 have hNl:(lensE d.E[j]!).length=d.E[j]!.L.length:=by simp [lensE,Ev.rows]
 have hN4:=(hac j hj1).pl.n4
 have htop:topF (rgW d.R d.E[j]!) (lensE d.E[j]!).length=topF (rgO d.R d.E[j]!) (lensE d.E[j]!).length:=by rw [hNl];rfl
 have hSK4:=hSK2.trans hO2.same
 generalize rgW d.R d.E[j]! =ry at *
 generalize rgO d.R d.E[j]! =rd' at *
 generalize lensE d.E[j]! =N at *
 have hl1:=hO1'.rd.isSl
 have hl2:=hO2.rd.isSl
 repeat' (first|refine zz6 @g4.eq_1 @f1 @f5 @f68 @f69 hl1.len ?_|(refine zh (fun hc=>?_) (fun hc=>?_)<;>try simp only [yL] at hc))
 refine GW_loop (fun k fr Z=>∃ i:Nat,k=N.length - i∧i≤N.length∧fr.get 1=some (.pointer (some ⟨H.len,0,none⟩))∧fr.get 5=some (.pointer (some ⟨H5.len,0,none⟩))∧fr.get 11=some (s1)∧fr.get 12=some (s2')∧fr.get 68=some (.int .i64 d.E.length)∧fr.get 69=some (.int .i64 j)∧fr.get 79=some (.int .i64 N.length)∧fr.get 80=some (.int .i64 i)∧Z=K4) ?_ N.length ?_
 rotate_left
 ·refine ⟨0,by omega,by omega,?_⟩
  simp only [↓yG,Nat.reduceEqDiff,↓reduceIte,Int.natCast_add,Int.cast_ofNat_Int,Int.natCast_zero,true_and,and_true,Option.some.injEq,Value.int.injEq,f1,f5,f68,f69]
 rintro k fr Z ⟨i,rfl,hi,f1,f5,f11,f12,f68,f69,f79,f80,rfl⟩ J2 hJ2
 by_cases hi1:i < N.length
 case neg=>
  repeat' (first|(exfalso;omega)|refine zz9 @g4.eq_1 @f1 @f5 @f11 @f12 @f68 @f69 @f79 @f80 ?_|(refine zh (fun hc=>?_) (fun hc=>?_)<;>try simp only [yL] at hc))
  refine hJ _ _ ⟨d.E.length - (j+1),by omega,j+1,rfl,by omega,?_⟩
  simp only [↓yG,Nat.reduceEqDiff,↓reduceIte,Int.natCast_add,Int.cast_ofNat_Int,Int.natCast_zero,true_and,and_true,Option.some.injEq,Value.int.injEq,f1,f5,f68]
  exact hSK4
 have hri:(List.range N.length)[i]! =i:=by rw [getElem!_pos _ i (by rw [List.length_range];exact hi1)];simp
 have rdS:∀ {B:GHeap} {r:Rg} {s:Value},OS 3 3 B Z s N.length ((List.range N.length).flatMap (spF r N))→∀ c,c < 3→Z.rd (blk s) (ofs s+i * 3+c)=(spF r N i)[c]?:=fun {B r s} h c hc=>by
  have:=GRd.row (f:=spF r N) h.rd (fun x=>spF_len r N x) (k:=i) (c:=c) (by rw [List.length_range];exact hi1) hc
  rwa [hri] at this
 have a0:Z.rd (blk s1) (ofs s1+i * 3)=some (.int .i64 (topF rd' N.length+i)):=rdS hO1' 0 (by decide)
 have a2:Z.rd (blk s1) (ofs s1+i * 3+2)=some (.int .i64 N[i]!):=rdS hO1' 2 (by decide)
 have b0:Z.rd (blk s2') (ofs s2'+i * 3)=some (.int .i64 (topF rd' N.length+i)):=by rw [← htop];exact rdS hO2 0 (by decide)
 have b2:Z.rd (blk s2') (ofs s2'+i * 3+2)=some (.int .i64 N[i]!):=rdS hO2 2 (by decide)
 repeat' (first|(exfalso;omega)|refine zz17 @g4.eq_1 @f1 @f5 @f11 @f12 @f68 @f69 @f79 @f80 @z0 hl1.ix hl2.ix hl2.len @a0 @a2 @b0 @b2 ?_|(refine zh (fun hc=>?_) (fun hc=>?_)<;>try simp only [yL] at hc))
 refine hJ2 _ _ ⟨N.length - (i+1),by omega,i+1,rfl,by omega,?_⟩
 simp only [↓yG,Nat.reduceEqDiff,↓reduceIte,Int.natCast_add,Int.cast_ofNat_Int,Int.natCast_zero,true_and,and_true,Option.some.injEq,Value.int.injEq,f1,f5,f11,f12,f68,f69,f79]
theorem carried_law {H:GHeap} (hw:H.wf) {gvs:List Value} (h:RdAsQ (fun m=>m≤1048576) H [.st [.str,.str,.int .u8,.bool,.int .i64,.sl (.st [.str,.int .i64,.int .i64,.int .i64,.int .i64,.int .u8,.bool]),.sl (.st [.int .i64,.st [.int .i64,.int .i64],.str,.int .u8,.str,.sl (.st [.sl (.st [.str,.st [.int .u8,.bool,.bool],.str])])]),.sl (.st [.int .i64,.int .i64,.int .i64,.int .i64,.str,.str,.bool,.bool])]] gvs):∃ v H2,gev G 4 gvs H=some (v,H2)∧v=.bool true:=by
 obtain ⟨_,_,rfl,h1,rfl⟩:=h
 obtain ⟨d,rfl,hd,hs,hc⟩:=dc_k h1
 exact carried_ok hw hd hs hc
end Go.Gh
end
