/-
  Parts of the proof: walks of the ghost functions and the laws of what they compute. No condition.
-/
import Derived.Test.YtjjcgaompnjbdaaGreatDoorQ5
import Derived.Test.YtjjcgaompnjbdaaGreatDoorQ1
import Derived.Test.YtjjcgaompnjbdaaGreatDoorQ3
section
namespace Go.Gh
set_option linter.unusedSimpArgs false
set_option linter.unusedVariables false
set_option maxHeartbeats 4000000
open Go.RowKit
set_option maxRecDepth 4000
def dcC (d:Dc):List Value:=[.string (strB d.ti),.string (strB d.la),.int .u8 d.rt,.bool d.dr,.int .i64 d.last,d.rv,d.ev,d.cv]
theorem dcC_0 (d:Dc):(dcC d)[0]? =some (.string (strB d.ti)):=rfl
theorem dcC_1 (d:Dc):(dcC d)[1]? =some (.string (strB d.la)):=rfl
theorem dcC_2 (d:Dc):(dcC d)[2]? =some (.int .u8 d.rt):=rfl
theorem dcC_3 (d:Dc):(dcC d)[3]? =some (.bool d.dr):=rfl
theorem dcC_4 (d:Dc):(dcC d)[4]? =some (.int .i64 d.last):=rfl
theorem dcC_5 (d:Dc):(dcC d)[5]? =some d.rv:=rfl
theorem dcC_6 (d:Dc):(dcC d)[6]? =some d.ev:=rfl
theorem dcC_7 (d:Dc):(dcC d)[7]? =some d.cv:=rfl
theorem dc_cells (d:Dc):(dcV d).cells.toList=dcC d:=rfl
theorem rdn_dc {H:GHeap} {j:Nat} {d:Dc} {u:Nat} {b:Bool} (h:H.len=j):(H.add (some (.cells (dcC d) u b))).rdn j 0 8=some (dcV d):=rdn_add_all h rfl
theorem rdn_dcp {H:GHeap} {j:Nat} {d:Dc} {u:Nat} {b:Bool}:(H.put j (.cells (dcC d) u b)).rdn j 0 8=some (dcV d):=rdn_put_all rfl
theorem RDc:type_of% (And.intro (And.intro (And.intro @dcC_0 (And.intro @dcC_1 @dcC_2)) (And.intro @dcC_3 (And.intro @dcC_4 @dcC_5))) (And.intro (And.intro @dcC_6 @dcC_7) (And.intro @dc_cells (And.intro @rdn_dc @rdn_dcp)))):=⟨⟨⟨@dcC_0,⟨@dcC_1,@dcC_2⟩⟩,⟨@dcC_3,⟨@dcC_4,@dcC_5⟩⟩⟩,⟨⟨@dcC_6,@dcC_7⟩,⟨@dc_cells,⟨@rdn_dc,@rdn_dcp⟩⟩⟩⟩
theorem dcC_flat {H:GHeap} {d:Dc} (h:DcR H d):(dcC d).all flatV=true:=by simp [dcC,flatV_int,flatV_str,flatV_bool,h.rg.flat,h.ev.rd.flat,h.cm.flat]
theorem dc_cflat {H:GHeap} {d:Dc} (h:DcR H d):(dcV d).cells.all flatV=true:=by rw [← Array.all_toList];exact dcC_flat h
theorem cmC_0 (c:Cm):(cmC c)[0]? =some (.int .i64 c.id):=rfl
theorem cmC_1 (c:Cm):(cmC c)[1]? =some (.int .i64 c.ev):=rfl
theorem cmC_2 (c:Cm):(cmC c)[2]? =some (.int .i64 c.fr):=rfl
theorem cmC_3 (c:Cm):(cmC c)[3]? =some (.int .i64 c.to):=rfl
theorem cmC_4 (c:Cm):(cmC c)[4]? =some (.string (strB c.au)):=rfl
theorem cmC_5 (c:Cm):(cmC c)[5]? =some (.string (strB c.tx)):=rfl
theorem cmC_6 (c:Cm):(cmC c)[6]? =some (.bool c.dn):=rfl
theorem cmC_7 (c:Cm):(cmC c)[7]? =some (.bool c.lo):=rfl
theorem cm_cells (c:Cm):(cmV c).cells.toList=cmC c:=rfl
theorem cmC_flat (c:Cm):(cmC c).all flatV=true:=by simp [cmC,flatV_int,flatV_str,flatV_bool]
theorem cm_cflat (c:Cm):(cmV c).cells.all flatV=true:=by rw [← Array.all_toList];exact cmC_flat c
theorem gsetn_cm {cs:List Value} {c:Cm} (h:cs.length=8):gsetn cs 0 8 (cmV c)=some (cmC c):=gsetn_all h rfl (by simp [flatV])
theorem rdn_cm {H:GHeap} {j:Nat} {c:Cm} {u:Nat} {b:Bool} (h:H.len=j):(H.add (some (.cells (cmC c) u b))).rdn j 0 8=some (cmV c):=rdn_add_all h rfl
theorem rdn_cmp {H:GHeap} {j:Nat} {c:Cm} {u:Nat} {b:Bool}:(H.put j (.cells (cmC c) u b)).rdn j 0 8=some (cmV c):=rdn_put_all rfl
theorem RC:type_of% (And.intro (And.intro (And.intro @cmC_0 (And.intro @cmC_1 @cmC_2)) (And.intro @cmC_3 (And.intro @cmC_4 @cmC_5))) (And.intro (And.intro @cmC_6 (And.intro @cmC_7 @cm_cells)) (And.intro (And.intro @cm_cflat @gsetn_cm) (And.intro @rdn_cm @rdn_cmp)))):=⟨⟨⟨@cmC_0,⟨@cmC_1,@cmC_2⟩⟩,⟨@cmC_3,⟨@cmC_4,@cmC_5⟩⟩⟩,⟨⟨@cmC_6,⟨@cmC_7,@cm_cells⟩⟩,⟨⟨@cm_cflat,@gsetn_cm⟩,⟨@rdn_cm,@rdn_cmp⟩⟩⟩⟩
theorem header_ok {H:GHeap} (hw:H.wf) {d:Dc} (hd:DcR H d) (hs:SmD d):∃ r H',gev G 59 [dcV d] H=some (r,H')∧(ErrIs r (hdrOk d)∧Same H H'):=by
 refine gev_GW (f:=59) rfl fun Post hPost=>?_
 have hlim:=hw.1
 have fd:=dc_cflat hd
 obtain ⟨s1,s2,s3⟩:=And.intro hs.ti (And.intro hs.la hs.rt)
 have z1:=strB_size d.ti
 have hbd:∀ {n:Int} {H'},n≠0→Same H H'→¬ hdrOk d→Post (.int .i64 n) H':=fun hn hS h=>hPost _ _ ⟨ErrIs.no hn h,hS⟩
 simp only [frameOf,Nat.reduceAdd]
 repeat' (first|refine zz3 @g59.eq_1 @RDc @fd ?_|(refine zh (fun hc=>?_) (fun hc=>?_)<;>try simp only [yL] at hc))
 have hS1:Same H (H.add (some (.cells (dcC d) 0 true))):=(Same.refl hw).add _
 refine zc1 @RDc (one_of (valid_ok (s:=strB d.ti) (by rw [strB_size];omega) _)) fun r2 H2 hq=>?_
 obtain ⟨rfl,rfl⟩:=hq
 cases hv:vldB (strB d.ti) with
 |false=>
  repeat' (first|refine zz2 @g59.eq_1 @RDc ?_|(refine zh (fun hc=>?_) (fun hc=>?_)<;>try simp only [yL] at hc))
  exact hbd (by decide) hS1 fun h=>by have:=h.1;rw [hv] at this;cases this
 |true=>
 by_cases h4:d.ti.length≤400
 case neg=>
  repeat' (first|refine zz3 @g59.eq_1 @RDc @z1 ?_|(refine zh (fun hc=>?_) (fun hc=>?_)<;>try simp only [yL] at hc))
  all_goals first|exact hbd (by decide) hS1 fun h=>h4 h.2.1|(exfalso;omega)
 have d4:decide ((400:Int) < d.ti.length)=false:=decide_eq_false (by omega)
 by_cases hla:d.la=[]∨nameF d.la=true
 case neg=>
  have d5:decide (¬ d.la=[])=true:=decide_eq_true fun h=>hla (.inl h)
  have d6:nameF d.la=false:=Bool.eq_false_iff.2 fun h=>hla (.inr h)
  repeat' (first|refine zz6 @g59.eq_1 @RDc @z1 @d4 @gb_neE @d5 ?_|(refine zh (fun hc=>?_) (fun hc=>?_)<;>try simp only [yL] at hc))
  refine zc1 @RDc (one_of (name_ok s2 _)) fun r4 H4 hq=>?_
  obtain ⟨rfl,rfl⟩:=hq
  repeat' (first|refine zz2 @g59.eq_1 @d6 ?_|(refine zh (fun hc=>?_) (fun hc=>?_)<;>try simp only [yL] at hc))
  exact hbd (by decide) hS1 fun h=>hla h.2.2.1
 by_cases hl0:d.la=[]
 case' pos=>
  have d5:decide (¬ d.la=[])=false:=decide_eq_false fun h=>h hl0
  repeat' (first|refine zz6 @g59.eq_1 @RDc @z1 @d4 @gb_neE @d5 ?_|(refine zh (fun hc=>?_) (fun hc=>?_)<;>try simp only [yL] at hc))
 case' neg=>
  have d5:decide (¬ d.la=[])=true:=decide_eq_true hl0
  have d6:=hla.resolve_left hl0
  repeat' (first|refine zz6 @g59.eq_1 @RDc @z1 @d4 @gb_neE @d5 ?_|(refine zh (fun hc=>?_) (fun hc=>?_)<;>try simp only [yL] at hc))
  refine zc1 @RDc (one_of (name_ok s2 _)) fun r4 H4 hq=>?_
  obtain ⟨rfl,rfl⟩:=hq
  repeat' (first|refine zz3 @g59.eq_1 @d6 @RDc ?_|(refine zh (fun hc=>?_) (fun hc=>?_)<;>try simp only [yL] at hc))
 all_goals
  refine zc1 @RDc (one_of (rate_ok s3 _)) fun r5 H5 hq=>?_
  obtain ⟨rfl,rfl⟩:=hq
  by_cases hr:0 < tk d.rt∧(d.dr=true→cdr d.rt=true)
  case neg=>
   rw [if_neg hr]
   repeat' (first|refine zz2 @g59.eq_1 @RDc ?_|(refine zh (fun hc=>?_) (fun hc=>?_)<;>try simp only [yL] at hc))
   exact hbd (by decide) hS1 fun h=>hr ⟨h.2.2.2.1,h.2.2.2.2.1⟩
  rw [if_pos hr]
  repeat' (first|refine zz2 @g59.eq_1 @RDc ?_|(refine zh (fun hc=>?_) (fun hc=>?_)<;>try simp only [yL] at hc))
  all_goals first
   |(exact hbd (by decide) hS1 fun h=>by have:=h.2.2.2.2.2;omega)
   |(exact hPost _ _ ⟨ErrIs.yes ⟨hv,h4,hla,hr.1,hr.2,by omega,by omega⟩,hS1⟩)
def MapIs (E:List Ev) (j:Nat) (L:List (Int × Int)):Prop:=∀ a n,dfind a L=some n↔∃ k:Nat,n=k∧k < j∧E[k]!.id=a
theorem look_none {H:GHeap} {r:Nat} {a:Int} {L:List (Int × Int)} (h:H.dct r=some (dic L)) (hd:dfind a L=none):glook (.int .i64 0) true H (.map (some r)) (.int .i64 a)=some (.tuple #[.int .i64 0,.bool false]):=by
 rw [glook_dic h,hd];rfl
theorem look_some {H:GHeap} {r:Nat} {a n:Int} {L:List (Int × Int)} (h:H.dct r=some (dic L)) (hd:dfind a L=some n):glook (.int .i64 0) true H (.map (some r)) (.int .i64 a)=some (.tuple #[.int .i64 n,.bool true]):=by
 rw [glook_dic h,hd];rfl
theorem anchored_ok {H:GHeap} (hw:H.wf) {d:Dc} (hd:DcR H d) (hs:SmD d) {c:Cm} {m:Nat} {L:List (Int × Int)} (hm:H.dct m=some (dic L)) (hml:m < H.len) (hL:MapIs d.E d.E.length L):
 ∃ r H',gev G 121 [dcV d,cmV c,.map (some m)] H=some (r,H')∧(ErrIs r (ancOk d.last d.E c)∧Same H H'):=by
 refine gev_GW (f:=121) rfl fun Post hPost=>?_
 have hlim:=hw.1
 have fd:=dc_cflat hd
 have hbd:∀ {n:Int} {H'},n≠0→Same H H'→¬ ancOk d.last d.E c→Post (.int .i64 n) H':=fun hn hS h=>hPost _ _ ⟨ErrIs.no hn h,hS⟩
 simp only [frameOf,Nat.reduceAdd]
 obtain ⟨H1,hH1⟩:∃ H1,H1=(H.add (some (.cells (dcC d) 0 true))).add (some (.cells (cmC c) 0 true)):=⟨_,rfl⟩
 have hS1:Same H H1:=hH1 ▸ ((Same.refl hw).add _).add _
 have q4:H1.rd H.len 4=some (.int .i64 d.last):=by rw [hH1,rd_add_ne (by rw [len_add];omega),rd_add_eq rfl];rfl
 have q6:H1.rd H.len 6=some d.ev:=by rw [hH1,rd_add_ne (by rw [len_add];omega),rd_add_eq rfl];rfl
 have k0:∀ i,H1.rd (H.len+1) i=(cmC c)[i]?:=fun i=>by rw [hH1,rd_add_eq (by rw [len_add])]
 have k1:=k0 1
 have k2:=k0 2
 have k3:=k0 3
 have k7:=k0 7
 rw [cmC_1] at k1
 rw [cmC_2] at k2
 rw [cmC_3] at k3
 rw [cmC_7] at k7
 clear k0
 have hm1:H1.dct m=some (dic L):=(hS1.dct hml).trans hm
 repeat' (first|refine zz5 @g121.eq_1 @RDc @RC @fd hH1.symm ?_|(refine zh (fun hc=>?_) (fun hc=>?_)<;>try simp only [yL] at hc))
 by_cases he:1≤c.ev∧c.ev≤d.last
 case neg=>
  repeat' (first|refine zz3 @g121.eq_1 @q4 @k1 ?_|(refine zh (fun hc=>?_) (fun hc=>?_)<;>try simp only [yL] at hc))
  all_goals first|exact hbd (by decide) hS1 fun h=>he h.1|(exfalso;omega)
 have d1:decide (c.ev < 1)=false:=decide_eq_false (by omega)
 have d2:decide (d.last < c.ev)=false:=decide_eq_false (by omega)
 cases hlo:c.lo with
 |true=>
  rw [hlo] at k7
  repeat' (first|refine zz8 @g121.eq_1 @q4 @k1 @d1 @d2 @k7 @k2 @k3 ?_|(refine zh (fun hc=>?_) (fun hc=>?_)<;>try simp only [yL] at hc))
  all_goals first
   |(exact hbd (by decide) hS1 fun h=>by have:=h.2.1 hlo;omega)
   |(exact hPost _ _ ⟨ErrIs.yes ⟨he,fun _=>by omega,fun h=>by rw [hlo] at h;cases h⟩,hS1⟩)
 |false=>
  rw [hlo] at k7
  cases hf:dfind c.ev L with
  |none=>
   have e1:=look_none hm1 hf
   repeat' (first|refine zz7 @g121.eq_1 @q4 @k1 @d1 @d2 @k7 @e1 ?_|(refine zh (fun hc=>?_) (fun hc=>?_)<;>try simp only [yL] at hc))
   exact hbd (by decide) hS1 fun h=>by
    obtain ⟨k,h1,h2,_⟩:=h.2.2 hlo
    have:=(hL c.ev k).2 ⟨k,rfl,h1,h2⟩
    rw [hf] at this;cases this
  |some n=>
   have e1:=look_some hm1 hf
   obtain ⟨k,rfl,hk,hid⟩:=(hL _ _).1 hf
   have hun:∀ k',k' < d.E.length→d.E[k']!.id=c.ev→k'=k:=fun k' h1 h2=>by
    have:=(hL c.ev k').2 ⟨k',rfl,h1,h2⟩
    rw [hf] at this
    simp only [Option.some.injEq] at this
    omega
   by_cases h1:0≤c.fr∧c.fr < c.to
   case neg=>
    repeat' (first|refine zz9 @g121.eq_1 @q4 @k1 @d1 @d2 @k7 @e1 @k2 @k3 ?_|(refine zh (fun hc=>?_) (fun hc=>?_)<;>try simp only [yL] at hc))
    all_goals first|(exact hbd (by decide) hS1 fun h=>by
                      obtain ⟨_,_,_,h2,h3,_⟩:=h.2.2 hlo
                      exact h1 ⟨h2,h3⟩)|(exfalso;omega)
   have d3:decide (c.fr < 0)=false:=decide_eq_false (by omega)
   have d4:decide (c.to≤c.fr)=false:=decide_eq_false (by omega)
   have hev:=hd.ev.later hw hS1
   have hsl:=hev.rd.rd.isSl
   have e2:=hev.rowN hk
   have hsE:=hs.E.2 _ (bang_mem hk)
   repeat' (first|refine zz14 @g121.eq_1 @q4 @q6 @k1 @d1 @d2 @d3 @d4 @k7 @e1 @k2 @k3 hsl.ix @e2 ?_|(refine zh (fun hc=>?_) (fun hc=>?_)<;>try simp only [yL] at hc))
   refine zm0 (lenE_ok (wf_up hS1.wf) (hev.at_ hk).up hsE.2.2.2.1 hsE.2.2.2.2) fun r4 H4 hq=>?_
   obtain ⟨rfl,hS4⟩:=hq
   have hS5:=hS1.trans (Same.down hS1.wf hS4)
   repeat' (first|refine zz1 @g121.eq_1 ?_|(refine zh (fun hc=>?_) (fun hc=>?_)<;>try simp only [yL] at hc))
   all_goals first
    |(exact hbd (by decide) hS5 fun h=>by
       obtain ⟨k',h2,h3,h4,h5,h6⟩:=h.2.2 hlo
       have:=hun k' h2 h3
       subst this
       omega)
    |(exact hPost _ _ ⟨ErrIs.yes ⟨he,fun (h:c.lo=true)=>absurd h (by rw [hlo];decide),fun (_:c.lo=false)=>⟨k,hk,hid,h1.1,h1.2,by omega⟩⟩,hS5⟩)
end Go.Gh
end
section
namespace Go.Gh
set_option linter.unusedSimpArgs false
set_option linter.unusedVariables false
set_option maxHeartbeats 4000000
open Go.RowKit
set_option maxRecDepth 4000
theorem comments_ok {H:GHeap} (hw:H.wf) {d:Dc} (hd:DcR H d) (hs:SmD d) {m:Nat} {L:List (Int × Int)} (hm:H.dct m=some (dic L)) (hml:m < H.len) (hL:MapIs d.E d.E.length L):
 ∃ r H',gev G 63 [dcV d,.map (some m)] H=some (r,H')∧(ErrIs r (cmsOk d)∧Same H H'):=by
 refine gev_GW (f:=63) rfl fun Post hPost=>?_
 have hlim:=hw.1
 have fd:=dc_cflat hd
 have hsl:=hd.cm.rd.isSl
 have hCl:=hs.C.1
 have hbd:∀ {n:Int} {H'},n≠0→Same H H'→¬ cmsOk d→Post (.int .i64 n) H':=fun hn hS h=>hPost _ _ ⟨ErrIs.no hn h,hS⟩
 simp only [frameOf,Nat.reduceAdd]
 obtain ⟨H1,hH1⟩:∃ H1,H1=H.add (some (.cells (dcC d) 0 true)):=⟨_,rfl⟩
 have hS1:Same H H1:=hH1 ▸ (Same.refl hw).add _
 have hl1:H.len < H1.len:=by rw [hH1,len_add];omega
 have q0:∀ i,H1.rd H.len i=(dcC d)[i]?:=fun i=>by rw [hH1,rd_add_eq rfl]
 have q8:H1.rdn H.len 0 8=some (dcV d):=by rw [hH1,rdn_dc rfl]
 have q7:=q0 7
 rw [dcC_7] at q7
 repeat' (first|refine zz6 @g63.eq_1 @RDc @fd hH1.symm @q7 hsl.len ?_|(refine zh (fun hc=>?_) (fun hc=>?_)<;>try simp only [yL] at hc))
 case refine_1=>exact hbd (by decide) hS1 fun h=>by have:=h.1;omega
 have hc64:d.C.length≤64:=by omega
 clear hc
 clear q7
 refine GW_loop (fun k fr H2=>∃ j:Nat,k=d.C.length - j∧j≤d.C.length∧fr.get 1=some (.map (some m))∧fr.get 2=some (.pointer (some ⟨H.len,0,none⟩))∧fr.get 15=some (d.cv)∧fr.get 16=some (.int .i64 d.C.length)∧fr.get 17=some (.int .i64 j)∧Same H1 H2∧∀ i,i < j→cmOk d.last d.E d.C i) ?_ d.C.length ?_
 case refine_2.refine_2=>
  refine ⟨0,by omega,by omega,?_⟩
  simp only [↓yG,Nat.reduceEqDiff,↓reduceIte,Int.natCast_add,Int.cast_ofNat_Int,Int.natCast_zero,true_and,and_true,Option.some.injEq,Value.int.injEq]
  exact ⟨Same.refl hS1.wf,fun i hi=>absurd hi (by omega)⟩
 rintro k fr H2 ⟨j,rfl,hj,f1,f2,f15,f16,f17,hS12,hall⟩ J hJ
 have hS2:=hS1.trans hS12
 have hw2:=hS2.wf
 have hlim2:=hw2.1
 have hl2:H.len < H2.len:=Nat.lt_of_lt_of_le hl1 hS12.len
 by_cases hj1:j < d.C.length
 ·have hd2:=hd.later hw hS2
  have e1:=hd2.cm.rowN hj1
  have hp:0 < j→H2.rd (blk d.cv) (ofs d.cv+(j - 1) * 8)=some (.int .i64 d.C[j - 1]!.id):=fun h0=>hd2.cm.row (k:=j - 1) (c:=0) (by omega) (by decide)
  have hcvl:=hd2.cm.rd.lt (by omega)
  have hsc:=hs.C.2 _ (bang_mem hj1)
  obtain ⟨hsc1,hsc2⟩:=hsc
  have hnx:cmOk d.last d.E d.C j→∀ i,i < j+1→cmOk d.last d.E d.C i:=fun h i hi=>by
   by_cases e:i=j
   ·subst e;exact h
   ·exact hall i (by omega)
  have hbd2:∀ {n:Int} {H'},n≠0→Same H H'→¬ cmOk d.last d.E d.C j→Post (.int .i64 n) H':=fun hn hS h=>hbd hn hS fun hh=>h (hh.2 j hj1)
  have hcm:cmOk d.last d.E d.C j=((1≤d.C[j]!.id∧d.C[j]!.id≤d.last)∧(0 < j→d.C[j - 1]!.id < d.C[j]!.id)∧(∀ k,k < d.E.length→d.E[k]!.id≠d.C[j]!.id)∧ancOk d.last d.E d.C[j]!∧nameF d.C[j]!.au=true∧vldB (strB d.C[j]!.tx)=true∧d.C[j]!.tx≠[]∧d.C[j]!.tx.length≤400):=rfl
  rw [hcm] at hnx hbd2
  clear hcm hbd
  generalize d.C[j]! =c at *
  generalize d.C[j - 1]!.id=pid at *
  obtain ⟨H3,hH3⟩:∃ H3,H3=(H2.add (some (.cells [.int .i64 0,.int .i64 0,.int .i64 0,.int .i64 0,.string ⟨#[]⟩,.string ⟨#[]⟩,.bool false,.bool false] 0 true))).put H2.len (.cells (cmC c) 0 true):=⟨_,rfl⟩
  have hS23:Same H2 H3:=hH3 ▸ (Same.refl hw2).new _ _
  have hS3:=hS2.trans hS23
  have hl3:H.len < H3.len:=Nat.lt_of_lt_of_le hl2 hS23.len
  have k0:∀ i,H3.rd H2.len i=(cmC c)[i]?:=fun i=>by rw [hH3,rd_put_same]
  have k8:H3.rdn H2.len 0 8=some (cmV c):=by rw [hH3,rdn_cmp]
  have hl23:H2.len < H3.len:=by rw [hH3];simp only [len_put,len_add];omega
  have u0:=k0 0
  have u4:=k0 4
  have u5:=k0 5
  rw [cmC_0] at u0
  rw [cmC_4] at u4
  rw [cmC_5] at u5
  have v4:H3.rd H.len 4=some (.int .i64 d.last):=by rw [(hS12.trans hS23).rd hl1];exact q0 4
  have v7:H3.rd H.len 7=some d.cv:=by rw [(hS12.trans hS23).rd hl1];exact q0 7
  have v8:H3.rdn H.len 0 8=some (dcV d):=by rw [(hS12.trans hS23).rdn hl1];exact q8
  have hp3:0 < j→H3.rd (blk d.cv) (ofs d.cv+((j:Int) - 1).toNat * 8)=some (.int .i64 pid):=fun h0=>by
   rw [show ((j:Int) - 1).toNat=j - 1 by omega];exact (hS23.rd hcvl).trans (hp h0)
  have hm3:H3.dct m=some (dic L):=(hS3.dct hml).trans hm
  have hst:=hH3.symm
  clear k0 hp hH3
  cases hf:dfind c.id L with
  |some n=>
   have e2:=look_some hm3 hf
   obtain ⟨k,_,hk,hid⟩:=(hL _ _).1 hf
   have hno:∀ {n:Int} {H'},n≠0→Same H H'→Post (.int .i64 n) H':=fun hn hS=>hbd2 hn hS fun h=>h.2.2.1 k hk hid
   by_cases h0:0 < j
   ·have hp4:=hp3 h0
    repeat' (first|(exfalso;omega)|refine zz16 @g63.eq_1 @f1 @f2 @f15 @f16 @f17 @RC hsl.ix @e1 @hst @u0 @v4 @v7 @e2 (decide_eq_true (show (0:Int) < j by omega)) @hp4 ?_|(refine zh (fun hc=>?_) (fun hc=>?_)<;>try simp only [yL] at hc))
    all_goals exact hno (by decide) hS3
   ·have d0:decide ((0:Int) < j)=false:=decide_eq_false (by omega)
    repeat' (first|(exfalso;omega)|refine zz15 @g63.eq_1 @f1 @f2 @f15 @f16 @f17 @RC hsl.ix @e1 @hst @u0 @v4 @v7 @e2 @d0 ?_|(refine zh (fun hc=>?_) (fun hc=>?_)<;>try simp only [yL] at hc))
    all_goals exact hno (by decide) hS3
  |none=>
   have e2:=look_none hm3 hf
   have hnin:∀ k,k < d.E.length→d.E[k]!.id≠c.id:=fun k hk he=>by
    have:=(hL c.id k).2 ⟨k,rfl,hk,he⟩
    rw [hf] at this;cases this
   by_cases hid:1≤c.id∧c.id≤d.last
   case neg=>
    repeat' (first|(exfalso;omega)|refine zz14 @g63.eq_1 @f1 @f2 @f15 @f16 @f17 @RC hsl.ix @e1 @hst @u0 @v4 @v7 @e2 ?_|(refine zh (fun hc=>?_) (fun hc=>?_)<;>try simp only [yL] at hc))
    all_goals first|exact hbd2 (by decide) hS3 fun h=>hid h.1|(exfalso;omega)
   have d1:decide (c.id < 1)=false:=decide_eq_false (by omega)
   have d2:decide (d.last < c.id)=false:=decide_eq_false (by omega)
   by_cases hor:0 < j→pid < c.id
   case neg=>
    have h0:0 < j:=Classical.byContradiction fun h=>hor fun h'=>absurd h' h
    have hp4:=hp3 h0
    have d0:decide ((0:Int) < j)=true:=decide_eq_true (by omega)
    repeat' (first|(exfalso;omega)|refine zz18 @g63.eq_1 @f1 @f2 @f15 @f16 @f17 @RC hsl.ix @e1 @hst @u0 @v4 @v7 @e2 @d1 @d2 @d0 @hp4 ?_|(refine zh (fun hc=>?_) (fun hc=>?_)<;>try simp only [yL] at hc))
    all_goals first|exact hbd2 (by decide) hS3 fun h=>hor h.2.1|(exact absurd (fun _=>by omega) hor)
   by_cases h0:0 < j
   case' pos=>
    have hp4:=hp3 h0
    have d0:decide ((0:Int) < j)=true:=decide_eq_true (by omega)
    have d3:decide (c.id≤pid)=false:=decide_eq_false (by have:=hor h0;omega)
    repeat' (first|(exfalso;omega)|refine zz21 @g63.eq_1 @f1 @f2 @f15 @f16 @f17 @RC hsl.ix @e1 @hst @u0 @v4 @v7 @v8 @k8 @e2 @d1 @d2 @d0 @d3 @hp4 ?_|(refine zh (fun hc=>?_) (fun hc=>?_)<;>try simp only [yL] at hc))
   case' neg=>
    have d0:decide ((0:Int) < j)=false:=decide_eq_false (by omega)
    repeat' (first|(exfalso;omega)|refine zz19 @g63.eq_1 @f1 @f2 @f15 @f16 @f17 @RC hsl.ix @e1 @hst @u0 @v4 @v7 @v8 @k8 @e2 @d1 @d2 @d0 ?_|(refine zh (fun hc=>?_) (fun hc=>?_)<;>try simp only [yL] at hc))
   all_goals
    refine zc5 @f1 @f2 @f15 @f16 @f17 (anchored_ok hS3.wf (hd.later hw hS3) hs hm3 (Nat.lt_of_lt_of_le hml hS3.len) hL) fun r4 H4 hq=>?_
    obtain ⟨⟨n,rfl,hn⟩,hS34⟩:=hq
    have hS4:=hS3.trans hS34
    have w4:=(hS34.rd hl23).trans u4
    have w5:=(hS34.rd hl23).trans u5
    by_cases hn0:n=0
    case neg=>
     repeat' (first|(exfalso;omega)|refine zz6 @g63.eq_1 @f1 @f2 @f15 @f16 @f17 ?_|(refine zh (fun hc=>?_) (fun hc=>?_)<;>try simp only [yL] at hc))
     all_goals exact hbd2 hn0 hS4 fun h=>hn0 (hn.2 h.2.2.2.1)
    have hanc:=hn.1 hn0
    subst hn0
    have d9:decide (¬ (0:Int)=0)=false:=rfl
    repeat' (first|(exfalso;omega)|refine zz7 @g63.eq_1 @f1 @f2 @f15 @f16 @f17 @w4 ?_|(refine zh (fun hc=>?_) (fun hc=>?_)<;>try simp only [yL] at hc))
    refine zc5 @f1 @f2 @f15 @f16 @f17 (one_of (name_ok hsc1 _)) fun r5 H5 hq=>?_
    obtain ⟨rfl,rfl⟩:=hq
    cases hna:nameF c.au with
    |false=>
     repeat' (first|(exfalso;omega)|refine zz6 @g63.eq_1 @f1 @f2 @f15 @f16 @f17 ?_|(refine zh (fun hc=>?_) (fun hc=>?_)<;>try simp only [yL] at hc))
     exact hbd2 (by decide) hS4 fun h=>by have:=h.2.2.2.2.1;rw [hna] at this;cases this
    |true=>
    repeat' (first|(exfalso;omega)|refine zz7 @g63.eq_1 @f1 @f2 @f15 @f16 @f17 @w5 ?_|(refine zh (fun hc=>?_) (fun hc=>?_)<;>try simp only [yL] at hc))
    refine zc5 @f1 @f2 @f15 @f16 @f17 (one_of (valid_ok (s:=strB c.tx) (by rw [strB_size];omega) _)) fun r5 H5 hq=>?_
    obtain ⟨rfl,rfl⟩:=hq
    cases hva:vldB (strB c.tx) with
    |false=>
     repeat' (first|(exfalso;omega)|refine zz6 @g63.eq_1 @f1 @f2 @f15 @f16 @f17 ?_|(refine zh (fun hc=>?_) (fun hc=>?_)<;>try simp only [yL] at hc))
     exact hbd2 (by decide) hS4 fun h=>by have:=h.2.2.2.2.2.1;rw [hva] at this;cases this
    |true=>
    have z5:=strB_size c.tx
    by_cases htx:c.tx=[]
    ·have d5:decide (c.tx=[])=true:=decide_eq_true htx
     repeat' (first|(exfalso;omega)|refine zz9 @g63.eq_1 @f1 @f2 @f15 @f16 @f17 @w5 @gb_eqE @d5 ?_|(refine zh (fun hc=>?_) (fun hc=>?_)<;>try simp only [yL] at hc))
     exact hbd2 (by decide) hS4 fun h=>h.2.2.2.2.2.2.1 htx
    have d5:decide (c.tx=[])=false:=decide_eq_false htx
    repeat' (first|(exfalso;omega)|refine zz10 @g63.eq_1 @f1 @f2 @f15 @f16 @f17 @w5 @gb_eqE @d5 @z5 ?_|(refine zh (fun hc=>?_) (fun hc=>?_)<;>try simp only [yL] at hc))
    all_goals first
     |(exact hbd2 (by decide) hS4 fun h=>by have:=h.2.2.2.2.2.2.2;omega)
     |(refine hJ _ _ ⟨d.C.length - (j+1),by omega,j+1,rfl,by omega,?_⟩
       simp only [↓yG,Nat.reduceEqDiff,↓reduceIte,Int.natCast_add,Int.cast_ofNat_Int,Int.natCast_zero,true_and,and_true,Option.some.injEq,Value.int.injEq,f1,f2,f15,f16]
       exact ⟨(hS12.trans hS23).trans hS34,hnx ⟨hid,hor,hnin,hanc,hna,hva,htx,by omega⟩⟩)
 ·obtain rfl:j=d.C.length:=by omega
  repeat' (first|(exfalso;omega)|refine zz6 @g63.eq_1 @f1 @f2 @f15 @f16 @f17 ?_|(refine zh (fun hc=>?_) (fun hc=>?_)<;>try simp only [yL] at hc))
  exact hPost _ _ ⟨ErrIs.yes ⟨hc64,hall⟩,hS2⟩
end Go.Gh
end
section
namespace Go.Gh
set_option linter.unusedSimpArgs false
set_option linter.unusedVariables false
set_option maxHeartbeats 4000000
open Go.RowKit
set_option maxRecDepth 4000
theorem MapIs.nil (E:List Ev):MapIs E 0 []:=fun a n=>⟨fun h=>by simp [dfind] at h,fun ⟨k,_,h,_⟩=>absurd h (by omega)⟩
theorem MapIs.succ {E:List Ev} {j:Nat} {L:List (Int × Int)} (h:MapIs E j L) (hd:∀ k,k < j→E[k]!.id≠E[j]!.id):MapIs E (j+1) (dset E[j]!.id j L):=fun a n=>by
 rw [dfind_set]
 by_cases ha:a=E[j]!.id
 ·rw [if_pos ha]
  constructor
  ·intro e;cases e;exact ⟨j,rfl,by omega,ha.symm⟩
  ·rintro ⟨k,rfl,hk,he⟩
   by_cases e:k=j
   ·rw [e]
   ·exact absurd (he.trans ha) (hd k (by omega))
 ·rw [if_neg ha,h]
  constructor
  ·rintro ⟨k,h1,h2,h3⟩;exact ⟨k,h1,by omega,h3⟩
  ·rintro ⟨k,h1,h2,h3⟩
   refine ⟨k,h1,?_,h3⟩
   by_cases e:k=j
   ·subst e;exact absurd h3.symm ha
   ·omega
theorem dcheck_ok {H:GHeap} (hw:H.wf) {d:Dc} (hd:DcR H d) (hs:SmD d):
 ∃ r H',gev G 23 [dcV d] H=some (r,H')∧(ErrIs r (dcOk d)∧Same H H'):=by
 refine gev_GW (f:=23) rfl fun Post hPost=>?_
 have hlim:=hw.1
 have fd:=dc_cflat hd
 have hsl:=hd.ev.rd.rd.isSl
 have hEl:=hs.E.1
 have hbd:∀ {n:Int} {H'},n≠0→Same H H'→¬ dcOk d→Post (.int .i64 n) H':=fun hn hS h=>hPost _ _ ⟨ErrIs.no hn h,hS⟩
 simp only [frameOf,Nat.reduceAdd]
 obtain ⟨H1,hH1⟩:∃ H1,H1=H.add (some (.cells (dcC d) 0 true)):=⟨_,rfl⟩
 have hS1:Same H H1:=hH1 ▸ (Same.refl hw).add _
 have hl1:H.len < H1.len:=by rw [hH1,len_add];omega
 have q0:∀ i,H1.rd H.len i=(dcC d)[i]?:=fun i=>by rw [hH1,rd_add_eq rfl]
 have q8:H1.rdn H.len 0 8=some (dcV d):=by rw [hH1,rdn_dc rfl]
 repeat' (first|refine zz5 @g23.eq_1 @RDc @fd hH1.symm @q8 ?_|(refine zh (fun hc=>?_) (fun hc=>?_)<;>try simp only [yL] at hc))
 clear hH1
 refine zc1 @q8 (header_ok hS1.wf (hd.later hw hS1) hs) fun r2 H2 hq=>?_
 obtain ⟨⟨n2,rfl,hn2⟩,hS12⟩:=hq
 have hS2:=hS1.trans hS12
 by_cases h2:n2=0
 case neg=>
  repeat' (first|refine zz1 @g23.eq_1 ?_|(refine zh (fun hc=>?_) (fun hc=>?_)<;>try simp only [yL] at hc))
  all_goals first|exact hbd h2 hS2 fun h=>h2 (hn2.2 h.1)|(exfalso;omega)
 have hhd:=hn2.1 h2
 subst h2
 have p0:∀ i,H2.rd H.len i=(dcC d)[i]?:=fun i=>(hS12.rd hl1).trans (q0 i)
 have p8:H2.rdn H.len 0 8=some (dcV d):=(hS12.rdn hl1).trans q8
 have hl2:H.len < H2.len:=Nat.lt_of_lt_of_le hl1 hS12.len
 have p5:=p0 5
 rw [dcC_5] at p5
 repeat' (first|refine zz2 @g23.eq_1 @p5 ?_|(refine zh (fun hc=>?_) (fun hc=>?_)<;>try simp only [yL] at hc))
 refine zc1 @p5 (checkList_ok hS2.wf (hd.later hw hS2).rg hs.R.1 hs.R.2) fun r3 H3 hq=>?_
 obtain ⟨⟨n3,rfl,hn3⟩,hS23⟩:=hq
 have hS3:=hS2.trans hS23
 by_cases h3:n3=0
 case neg=>
  repeat' (first|refine zz1 @g23.eq_1 ?_|(refine zh (fun hc=>?_) (fun hc=>?_)<;>try simp only [yL] at hc))
  all_goals first|exact hbd h3 hS3 fun h=>h3 (hn3.2 h.2.1)|(exfalso;omega)
 have hrg:=hn3.1 h3
 subst h3
 have o0:∀ i,H3.rd H.len i=(dcC d)[i]?:=fun i=>(hS23.rd hl2).trans (p0 i)
 have o8:H3.rdn H.len 0 8=some (dcV d):=(hS23.rdn hl2).trans p8
 have hl3:H.len < H3.len:=Nat.lt_of_lt_of_le hl2 hS23.len
 have o6:=o0 6
 rw [dcC_6] at o6
 clear p5 p0 p8 q0 q8
 by_cases h4:d.E.length≤400
 case neg=>
  repeat' (first|refine zz3 @g23.eq_1 @o6 hsl.len ?_|(refine zh (fun hc=>?_) (fun hc=>?_)<;>try simp only [yL] at hc))
  all_goals first|exact hbd (by decide) hS3 fun h=>h4 h.2.2.1.1|(exfalso;omega)
 have d4:decide ((400:Int) < d.E.length)=false:=decide_eq_false (by omega)
 have hw3:=hS3.wf
 have hlim3:=hw3.1
 have o6':(H3.add (some (.dict []))).rd H.len 6=some d.ev:=by rw [rd_add_ne (by omega)];exact o6
 repeat' (first|refine zz5 @g23.eq_1 @o6 @o6' hsl.len @d4 ?_|(refine zh (fun hc=>?_) (fun hc=>?_)<;>try simp only [yL] at hc))
 have hSm:Same H (H3.add (some (.dict []))):=hS3.add _
 refine GW_loop (fun k fr H4=>∃ (j:Nat) (L:List (Int × Int)),k=d.E.length - j∧j≤d.E.length∧fr.get 1=some (.pointer (some ⟨H.len,0,none⟩))∧fr.get 5=some (.map (some H3.len))∧fr.get 28=some (d.ev)∧fr.get 29=some (.int .i64 d.E.length)∧fr.get 30=some (.int .i64 j)∧Same H H4∧H3.len < H4.len∧H4.dct H3.len=some (dic L)∧(∀ i,H4.rd H.len i=(dcC d)[i]?)∧H4.rdn H.len 0 8=some (dcV d)∧MapIs d.E j L∧
  ∀ i,i < j→evOk d.R d.E[i]!∧d.E[i]!.id≤d.last∧(0 < i→lessE d.E[i - 1]! d.E[i]!)∧∀ k,k < i→d.E[k]!.id≠d.E[i]!.id) ?_ d.E.length ?_
 case refine_2=>
  refine ⟨0,[],by omega,by omega,?_⟩
  simp only [↓yG,Nat.reduceEqDiff,↓reduceIte,Int.natCast_add,Int.cast_ofNat_Int,Int.natCast_zero,true_and,and_true,Option.some.injEq,Value.int.injEq]
  refine ⟨hSm,by rw [len_add];omega,dct_add_eq rfl,fun i=>?_,?_,MapIs.nil _,fun i hi=>absurd hi (by omega)⟩
  ·rw [rd_add_ne (by omega)];exact o0 i
  ·rw [rdn_add_ne (by omega)];exact o8
 rintro k fr H4 ⟨j,L,rfl,hj,f1,f5,f28,f29,f30,hS4,hlm,hm,b0,b8,hL,hall⟩ J hJ
 have hw4:=hS4.wf
 have hlim4:=hw4.1
 have hlm4:=hS4.lim
 by_cases hj1:j < d.E.length
 ·have hd4:=hd.later hw hS4
  have e1:=hd4.ev.rowN hj1
  have hT:=hd.ev.at_ hj1
  have hf1:=hT.rd.flat
  have hse:=hs.E.2 _ (bang_mem hj1)
  have hnx:(evOk d.R d.E[j]!∧d.E[j]!.id≤d.last∧(0 < j→lessE d.E[j - 1]! d.E[j]!)∧∀ k,k < j→d.E[k]!.id≠d.E[j]!.id)→∀ i,i < j+1→evOk d.R d.E[i]!∧d.E[i]!.id≤d.last∧(0 < i→lessE d.E[i - 1]! d.E[i]!)∧∀ k,k < i→d.E[k]!.id≠d.E[i]!.id:=fun h i hi=>by
   by_cases e:i=j
   ·subst e;exact h
   ·exact hall i (by omega)
  have hbd2:∀ {n:Int} {H'},n≠0→Same H H'→¬ (evOk d.R d.E[j]!∧d.E[j]!.id≤d.last∧(0 < j→lessE d.E[j - 1]! d.E[j]!)∧∀ k,k < j→d.E[k]!.id≠d.E[j]!.id)→Post (.int .i64 n) H':=fun hn hS h=>hbd hn hS fun hh=>h (hh.2.2.1.2 j hj1)
  have hp:0 < j→H4.rdn (blk d.ev) (ofs d.ev+((j:Int) - 1).toNat * 7) 7=some (evV d.E[j - 1]!)∧flatV d.E[j - 1]!.v=true:=fun h0=>by
   rw [show ((j:Int) - 1).toNat=j - 1 by omega]
   exact ⟨hd4.ev.rowN (by omega),(hd.ev.at_ (k:=j - 1) (by omega)).rd.flat⟩
  have hevl:=hd4.ev.rd.rd.lt (by omega)
  have hLs:=fun h=>hL.succ (E:=d.E) h
  generalize d.E[j - 1]! =pe at *
  generalize d.E[j]! =e at *
  obtain ⟨H5,hH5⟩:∃ H5,H5=(H4.add (some (.cells [.int .i64 0,.int .i64 0,.int .i64 0,.string ⟨#[]⟩,.int .u8 0,.string ⟨#[]⟩,.slice none 0 0] 0 true))).put H4.len (.cells (evC e) 0 true):=⟨_,rfl⟩
  have hS45:Same H4 H5:=hH5 ▸ (Same.refl hw4).new _ _
  have hS5:=hS4.trans hS45
  have k0:∀ i,H5.rd H4.len i=(evC e)[i]?:=fun i=>by rw [hH5,rd_put_same]
  have k7:H5.rdn H4.len 0 7=some (evV e):=by rw [hH5,rdn_evp]
  have hl45:H4.len < H5.len:=by rw [hH5];simp only [len_put,len_add];omega
  have hl4:H.len < H4.len:=by have:=hS3.len;omega
  have u5:H5.rd H.len 5=some d.rv:=by rw [hS45.rd hl4];exact b0 5
  have hst:=hH5.symm
  have gse:=gsetn_ev (cs:=[.int .i64 0,.int .i64 0,.int .i64 0,.string ⟨#[]⟩,.int .u8 0,.string ⟨#[]⟩,.slice none 0 0]) (e:=e) rfl hf1
  clear hH5
  repeat' (first|(exfalso;omega)|refine zz12 @g23.eq_1 @f1 @f5 @f28 @f29 @f30 hsl.ix @e1 @gse @hst @u5 @k7 ?_|(refine zh (fun hc=>?_) (fun hc=>?_)<;>try simp only [yL] at hc))
  refine zc5 @f1 @f5 @f28 @f29 @f30 (evCheck_ok hS5.wf (hT.later hw hS5) hse (hd.later hw hS5).rg hs.R.1 hs.R.2) fun r6 H6 hq=>?_
  obtain ⟨⟨n,rfl,hn⟩,hS56⟩:=hq
  have hS6:=hS5.trans hS56
  have hS46:=hS45.trans hS56
  by_cases hn0:n=0
  case neg=>
   repeat' (first|(exfalso;omega)|refine zz6 @g23.eq_1 @f1 @f5 @f28 @f29 @f30 ?_|(refine zh (fun hc=>?_) (fun hc=>?_)<;>try simp only [yL] at hc))
   all_goals exact hbd2 hn0 hS6 fun h=>hn0 (hn.2 h.1)
  have hev:=hn.1 hn0
  subst hn0
  have w0:H6.rd H4.len 0=some (.int .i64 e.id):=(hS56.rd hl45).trans (k0 0)
  have w7:=(hS56.rdn hl45).trans k7
  have v4:H6.rd H.len 4=some (.int .i64 d.last):=(hS46.rd hl4).trans (b0 4)
  have v6:H6.rd H.len 6=some d.ev:=(hS46.rd hl4).trans (b0 6)
  have hm6:H6.dct H3.len=some (dic L):=(hS46.dct hlm).trans hm
  by_cases hla:e.id≤d.last
  case neg=>
   cases hf:dfind e.id L with
   |none=>
    have e2:=look_none hm6 hf
    repeat' (first|(exfalso;omega)|refine zz9 @g23.eq_1 @f1 @f5 @f28 @f29 @f30 @w0 @v4 @e2 ?_|(refine zh (fun hc=>?_) (fun hc=>?_)<;>try simp only [yL] at hc))
    all_goals exact hbd2 (by decide) hS6 fun h=>hla h.2.1
   |some n=>
    have e2:=look_some hm6 hf
    repeat' (first|(exfalso;omega)|refine zz9 @g23.eq_1 @f1 @f5 @f28 @f29 @f30 @w0 @v4 @e2 ?_|(refine zh (fun hc=>?_) (fun hc=>?_)<;>try simp only [yL] at hc))
    all_goals exact hbd2 (by decide) hS6 fun h=>hla h.2.1
  have d1:decide (d.last < e.id)=false:=decide_eq_false (by omega)
  have hbk:(∃ n,dfind e.id L=some n)→¬ ∀ k,k < j→d.E[k]!.id≠e.id:=fun ⟨n,hf⟩ h=>by
   obtain ⟨k,_,hk,hid⟩:=(hL _ _).1 hf
   exact h k hk hid
  have hbn:dfind e.id L=none→∀ k,k < j→d.E[k]!.id≠e.id:=fun hf k hk hid=>by
   have:=(hL e.id k).2 ⟨k,rfl,hk,hid⟩
   rw [hf] at this;cases this
  obtain ⟨lv,lb,e2,hlb⟩:∃ lv lb,glook (.int .i64 0) true H6 (.map (some H3.len)) (.int .i64 e.id)=some (.tuple #[lv,.bool lb])∧(lb=true→∃ n,dfind e.id L=some n)∧(lb=false→dfind e.id L=none):=by
   cases hf:dfind e.id L with
   |none=>exact ⟨_,_,look_none hm6 hf,fun h=>(by cases h),fun _=>rfl⟩
   |some n=>exact ⟨_,_,look_some hm6 hf,fun _=>⟨_,rfl⟩,fun h=>(by cases h)⟩
  have hl46:=hS46.len
  have hl34:=hS3.len
  have hfin:∀ {H7:GHeap} {fr':Fr},Same H6 H7→(0 < j→lessE pe e)→(∀ k,k < j→d.E[k]!.id≠e.id)→fr'.get 1=some (.pointer (some ⟨H.len,0,none⟩))∧fr'.get 5=some (.map (some H3.len))∧fr'.get 28=some (d.ev)∧fr'.get 29=some (.int .i64 d.E.length)∧fr'.get 30=some (.int .i64 ((j+1:Nat):Int))→J fr' (H7.put H3.len (.dict (dic (dset e.id j L)))):=fun {H7 fr'} hS67 g1 g2 ⟨g3,g4,g5,g6,g7⟩=>by
   have hS47:=hS46.trans hS67
   have hl7:=hS47.len
   refine hJ _ _ ⟨d.E.length - (j+1),by omega,j+1,dset e.id j L,rfl,by omega,g3,g4,g5,g6,g7,(hS4.trans hS47).put hl34 (by omega) _,by rw [len_put];omega,dct_put_same,fun i=>?_,?_,hLs g2,hnx ⟨hev,hla,g1,g2⟩⟩
   ·rw [rd_put_ne (by omega),hS47.rd hl4];exact b0 i
   ·rw [rdn_put_ne (by omega),hS47.rdn hl4];exact b8
  have hset:∀ {H7:GHeap},Same H6 H7→gmset H7 (.map (some H3.len)) (.int .i64 e.id) (.int .i64 j)=some (H7.put H3.len (.dict (dic (dset e.id j L)))):=fun {H7} hS67=>by
   have hS47:=hS46.trans hS67
   exact gmset_dic ((hS47.dct hlm).trans hm) (by have:=hS47.lim;omega)
  clear hJ hnx
  by_cases h0:0 < j
  ·obtain ⟨hp4,hfp⟩:=hp h0
   have hp6:=(hS46.rdn hevl).trans hp4
   have d0:decide ((0:Int) < j)=true:=decide_eq_true (by omega)
   repeat' (first|(exfalso;omega)|refine zz15 @g23.eq_1 @f1 @f5 @f28 @f29 @f30 @w0 @v4 @e2 @d1 @d0 @v6 hsl.ix @hp6 @w7 ?_|(refine zh (fun hc=>?_) (fun hc=>?_)<;>try simp only [yL] at hc))
   refine zc5 @f1 @f5 @f28 @f29 @f30 (less_ok hS6.wf hfp hf1) fun r7 H7 hq=>?_
   obtain ⟨rfl,hS67⟩:=hq
   by_cases hle:lessE pe e
   case neg=>
    have d5:decide (lessE pe e)=false:=decide_eq_false hle
    repeat' (first|(exfalso;omega)|refine zz7 @g23.eq_1 @f1 @f5 @f28 @f29 @f30 @d5 ?_|(refine zh (fun hc=>?_) (fun hc=>?_)<;>try simp only [yL] at hc))
    all_goals exact hbd2 (by decide) (hS6.trans hS67) fun h=>hle (h.2.2.1 h0)
   have d5:decide (lessE pe e)=true:=decide_eq_true hle
   have x0:=(hS67.rd (Nat.lt_of_lt_of_le hl45 hS56.len)).trans w0
   have hs7:=hset hS67
   cases lb with
   |true=>
    repeat' (first|(exfalso;omega)|refine zz7 @g23.eq_1 @f1 @f5 @f28 @f29 @f30 @d5 ?_|(refine zh (fun hc=>?_) (fun hc=>?_)<;>try simp only [yL] at hc))
    exact hbd2 (by decide) (hS6.trans hS67) fun h=>hbk (hlb.1 rfl) h.2.2.2
   |false=>
    repeat' (first|(exfalso;omega)|refine zz9 @g23.eq_1 @f1 @f5 @f28 @f29 @f30 @d5 @x0 @hs7 ?_|(refine zh (fun hc=>?_) (fun hc=>?_)<;>try simp only [yL] at hc))
    refine hfin hS67 (fun _=>hle) (hbn (hlb.2 rfl)) ?_
    simp only [↓yG,Nat.reduceEqDiff,↓reduceIte,Int.natCast_add,Int.cast_ofNat_Int,Int.natCast_zero,true_and,and_true,Option.some.injEq,Value.int.injEq,f1,f5,f28,f29]
  ·have d0:decide ((0:Int) < j)=false:=decide_eq_false (by omega)
   have hs7:=hset (Same.refl hS6.wf)
   cases lb with
   |true=>
    repeat' (first|(exfalso;omega)|refine zz11 @g23.eq_1 @f1 @f5 @f28 @f29 @f30 @w0 @v4 @e2 @d1 @d0 ?_|(refine zh (fun hc=>?_) (fun hc=>?_)<;>try simp only [yL] at hc))
    exact hbd2 (by decide) hS6 fun h=>hbk (hlb.1 rfl) h.2.2.2
   |false=>
    repeat' (first|(exfalso;omega)|refine zz12 @g23.eq_1 @f1 @f5 @f28 @f29 @f30 @w0 @v4 @e2 @d1 @d0 @hs7 ?_|(refine zh (fun hc=>?_) (fun hc=>?_)<;>try simp only [yL] at hc))
    refine hfin (Same.refl hS6.wf) (fun h=>absurd h h0) (hbn (hlb.2 rfl)) ?_
    simp only [↓yG,Nat.reduceEqDiff,↓reduceIte,Int.natCast_add,Int.cast_ofNat_Int,Int.natCast_zero,true_and,and_true,Option.some.injEq,Value.int.injEq,f1,f5,f28,f29]
 ·obtain rfl:j=d.E.length:=by omega
  repeat' (first|(exfalso;omega)|refine zz7 @g23.eq_1 @f1 @f5 @f28 @f29 @f30 @b8 ?_|(refine zh (fun hc=>?_) (fun hc=>?_)<;>try simp only [yL] at hc))
  refine zc5 @f1 @f5 @f28 @f29 @f30 (comments_ok hw4 (hd.later hw hS4) hs hm hlm hL) fun r5 H5 hq=>?_
  obtain ⟨⟨n,rfl,hn⟩,hS45⟩:=hq
  repeat' (first|(exfalso;omega)|refine zz6 @g23.eq_1 @f1 @f5 @f28 @f29 @f30 ?_|(refine zh (fun hc=>?_) (fun hc=>?_)<;>try simp only [yL] at hc))
  exact hPost _ _ ⟨⟨n,rfl,hn.trans ⟨fun h=>⟨hhd,hrg,⟨h4,hall⟩,h⟩,fun h=>h.2.2.2⟩⟩,hS4.trans hS45⟩
end Go.Gh
end
section
namespace Go.Gh
set_option linter.unusedSimpArgs false
set_option linter.unusedVariables false
set_option maxHeartbeats 4000000
set_option maxRecDepth 100000
def schS:ByteArray:=⟨#[194,161,194,162,194,163,194,164,194,165,194,166,194,167,194,169,226,128,152,226,128,156,194,171,194,174,226,128,148,226,128,162,226,128,166,194,176,226,132,162,194,183,226,128,153,226,128,157,194,187,194,189,194,191,226,153,170,195,134,195,152,197,146,195,166,195,184,197,147,195,159]⟩
def sbyS:ByteArray:=⟨#[161,162,163,164,165,166,167,168,169,170,171,172,173,174,175,176,180,183,185,186,187,189,191,213,225,233,234,241,249,250,251]⟩
def SCH:List Nat:=[161,162,163,164,165,166,167,169,8216,8220,171,174,8212,8226,8230,176,8482,183,8217,8221,187,189,191,9834,198,216,338,230,248,339,223]
def SBY:List Nat:=[161,162,163,164,165,166,167,168,169,170,171,172,173,174,175,176,180,183,185,186,187,189,191,213,225,233,234,241,249,250,251]
def accS (b:Int):ByteArray:=
 if b=193 then ⟨#[195,128,195,136,195,140,195,146,195,153]⟩ else
 if b=194 then ⟨#[195,129,195,137,195,141,195,147,195,154]⟩ else
 if b=195 then ⟨#[195,130,195,138,195,142,195,148,195,155]⟩ else
 if b=196 then ⟨#[195,131,195,145,195,149]⟩ else
 if b=200 then ⟨#[195,132,195,139,195,143,195,150,195,156]⟩ else
 if b=202 then ⟨#[195,133]⟩ else
 if b=203 then ⟨#[195,135]⟩ else ⟨#[]⟩
def ACC (b:Int):List Nat:=
 if b=193 then [192,200,204,210,217] else
 if b=194 then [193,201,205,211,218] else
 if b=195 then [194,202,206,212,219] else
 if b=196 then [195,209,213] else
 if b=200 then [196,203,207,214,220] else
 if b=202 then [197] else
 if b=203 then [199] else []
def COD:List Nat:=[161,162,163,164,165,166,167,168,169,170,171,172,173,174,175,176,180,183,185,186,187,189,191,213,225,233,234,241,249,250,251]
def CHR:List Nat:=[161,162,163,164,165,166,167,169,8216,8220,171,174,8212,8226,8230,176,8482,183,8217,8221,187,189,191,9834,198,216,338,230,248,339,223]
def MRK:List Nat:=[193,193,193,193,193,194,194,194,194,194,195,195,195,195,195,196,196,196,200,200,200,200,200,202,203]
def LTR:List Nat:=[65,69,73,79,85,65,69,73,79,85,65,69,73,79,85,65,78,79,65,69,73,79,85,65,67]
def DCH:List Nat:=[192,200,204,210,217,193,201,205,211,218,194,202,206,212,219,195,209,213,196,203,207,214,220,197,199]
theorem rns_sch:rns schS=SCH:=by kernel_rfl
theorem sby_at:sbyS.data.toList.map (·.toNat)=SBY:=by kernel_rfl
theorem rns_acc (b:Int):rns (accS b)=ACC b:=by
 unfold accS ACC
 (repeat' split)<;>kernel_rfl
def dia (r:Int):Nat→Int→Option Int
 |0,_=>none
 |k+1,b=>if inB (ACC b) (uppA r)=true then some b else dia r k (b+1)
def putA (r:Int):List Int:=
 if idxN r < 0 then [] else if r < 127 then [r] else match fnd SCH r with
  |some i=>[(SBY[i]!:Nat)]
  |none=>match dia r 11 193 with
   |some b=>[b,(basA r) % 256]
   |none=>[]
def sngN (c:Int):Int:=if 32≤c∧c≤126 then c else match fnd COD c with
 |some i=>(CHR[i]!:Nat)
 |none=>0
def dblF (m c:Int):Nat→Nat→Option Nat
 |0,_=>none
 |k+1,j=>if (MRK[j]!:Int)=m∧(LTR[j]!:Int)=c then some j else dblF m c k (j+1)
def dblN (m l:Int):Int:=
 if 97≤l∧l≤122 then (match dblF m (l - 32) 25 0 with|some j=>(DCH[j]!:Int)+32|none=>0)
 else (match dblF m l 25 0 with|some j=>(DCH[j]!:Int)|none=>0)
end Go.Gh
end
section
namespace Go.Gh
set_option linter.unusedSimpArgs false
set_option linter.unusedVariables false
set_option maxHeartbeats 4000000
open Go.RowKit
set_option maxRecDepth 4000
set_option maxRecDepth 100000
def isB:Option Value→Bool→Bool
 |some (.bool a),b=>a == b
 |_,_=>false
theorem isB_eq {x:Option Value} {b:Bool} (h:isB x b=true):x=some (.bool b):=by
 cases x with
 |none=>simp [isB] at h
 |some v=>cases v<;>simp_all [isB]
set_option maxRecDepth 4000
theorem bases_ix {k:IntKind} {j:Nat} (h:j < 81):gix none (.string basesS) (.int k j)=some (.int .u8 (BASES[j]!:Nat)):=by
 have hb:basesS.size=81:=by decide
 have h1:=bases_at
 have h2:=congrArg (fun l=>l[j]?) h1
 simp only [List.getElem?_map] at h2
 have h3:j < basesS.data.toList.length:=by have:basesS.data.toList.length=81:=by decide
                                           omega
 rw [List.getElem?_eq_getElem h3,Option.map_some,gget (by show j < 81;exact h),Option.some.injEq] at h2
 simp only [gix,Int.toNat_natCast]
 rw [if_pos (by omega)]
 have h4:basesS[j]? =some (basesS.data.toList[j]):=by
  rw [getElem?_pos basesS j (by rw [hb];exact h)]
  rfl
 rw [h4,← h2];rfl
section
variable {r:Int} (hr:-2147483648≤r∧r≤2147483647) (H:GHeap)
include hr
theorem upper_ok:gev G 176 [.int .i32 r] H=some (.int .i32 (uppA r),H):=by
 refine gev_GWP (f:=176) rfl rfl rfl (fun Post hPost=>?_) H
 simp only [frameOf,Nat.reduceAdd]
 have hP:∀ n,uppA r=n→∀ H',Post (.int .i32 n) H':=fun n e H'=>e ▸ hPost H'
 clear hPost
 have hrg:=idx_range r
 repeat' (first|refine zz1 @g176.eq_1 ?_|(refine zh (fun hc=>?_) (fun hc=>?_)<;>try simp only [yL] at hc))
 refine zc0 (one_of (idx_ok hr _)) fun r1 H1 hq=>?_
 obtain ⟨rfl,rfl⟩:=hq
 repeat' (first|(exfalso;omega)|refine zz1 @g176.eq_1 ?_|(refine zh (fun hc=>?_) (fun hc=>?_)<;>try simp only [yL] at hc))
 all_goals exact hP _ (by unfold uppA;(repeat' split)<;>omega) _
theorem lower_ok:gev G 186 [.int .i32 r] H=some (.int .i32 (lowA r),H):=by
 refine gev_GWP (f:=186) rfl rfl rfl (fun Post hPost=>?_) H
 simp only [frameOf,Nat.reduceAdd]
 have hP:∀ n,lowA r=n→∀ H',Post (.int .i32 n) H':=fun n e H'=>e ▸ hPost H'
 clear hPost
 have hrg:=idx_range r
 repeat' (first|refine zz1 @g186.eq_1 ?_|(refine zh (fun hc=>?_) (fun hc=>?_)<;>try simp only [yL] at hc))
 refine zc0 (one_of (idx_ok hr _)) fun r1 H1 hq=>?_
 obtain ⟨rfl,rfl⟩:=hq
 repeat' (first|(exfalso;omega)|refine zz1 @g186.eq_1 ?_|(refine zh (fun hc=>?_) (fun hc=>?_)<;>try simp only [yL] at hc))
 all_goals exact hP _ (by unfold lowA;(repeat' split)<;>omega) _
theorem base_ok:gev G 177 [.int .i32 r] H=some (.int .i32 (basA r),H):=by
 refine gev_GWP (f:=177) rfl rfl rfl (fun Post hPost=>?_) H
 simp only [frameOf,Nat.reduceAdd]
 have hP:∀ n,basA r=n→∀ H',Post (.int .i32 n) H':=fun n e H'=>e ▸ hPost H'
 clear hPost
 repeat' (first|refine zz1 @g177.eq_1 ?_|(refine zh (fun hc=>?_) (fun hc=>?_)<;>try simp only [yL] at hc))
 refine zc0 (one_of (idx_ok hr _)) fun r1 H1 hq=>?_
 obtain ⟨rfl,rfl⟩:=hq
 have hi:idxN r < 0∨idxN r < 95∨∃ j:Nat,j < 81∧idxN r - 95=j:=by
  rcases idx_cases r with ⟨e,_⟩|⟨n,h1,e,_⟩
  ·omega
  ·by_cases h:n < 95
   ·omega
   ·exact .inr (.inr ⟨n - 95,by omega,by omega⟩)
 have hc9:-1≤idxN r∧idxN r < 176:=by rcases idx_cases r with ⟨e,_⟩|⟨n,h1,e,_⟩<;>omega
 rcases hi with hi|hi|⟨j,hj,hi⟩
 ·repeat' (first|(exfalso;omega)|refine zz1 @g177.eq_1 ?_|(refine zh (fun hc=>?_) (fun hc=>?_)<;>try simp only [yL] at hc))
  all_goals exact hP _ (by unfold basA;(repeat' split)<;>omega) _
 ·repeat' (first|(exfalso;omega)|refine zz1 @g177.eq_1 ?_|(refine zh (fun hc=>?_) (fun hc=>?_)<;>try simp only [yL] at hc))
  all_goals exact hP _ (by unfold basA;(repeat' split)<;>omega) _
 ·have hx:=fun k=>bases_ix (k:=k) hj
  unfold basesS at hx
  have hu:∀ H,gconv (.int .i32) H (.int .u8 (BASES[j]!:Nat))=some (.int .i32 (BASES[j]!:Nat),none):=by
   intro H
   have:∀ j:Fin 81,BASES[j.val]! < 256:=by decide
   have h1:=this ⟨j,hj⟩
   simp only at h1
   rw [gcv_int,wr_i32 (by omega)]
  repeat' (first|(exfalso;omega)|refine zz4 @g177.eq_1 @hi @hx @hu ?_|(refine zh (fun hc=>?_) (fun hc=>?_)<;>try simp only [yL] at hc))
  all_goals exact hP _ (by unfold basA;rw [hi,Int.toNat_natCast];(repeat' split)<;>omega) _
end
set_option maxRecDepth 4000
theorem OS.made {s u n:Nat} {H:GHeap} {cs:List Value} (hw:H.wf) (h:cs.length=n * s):OS s u H (H.add (some (.cells cs u true))) (.slice (some ⟨H.len,0,none⟩) n (n+1)) n cs:=
 ⟨(Same.refl hw).add _,⟨h,.inr ⟨H.len,n+1,rfl,.inr rfl,mine_add_eq rfl hw.1⟩⟩,.inr (Nat.le_refl _)⟩
theorem str_ix {S:ByteArray} {L:List Nat} (hL:S.data.toList.map (·.toNat)=L) {k:IntKind} {j:Nat} (h:j < L.length):gix none (.string S) (.int k j)=some (.int .u8 (L[j]!:Nat)):=by
 have h3:j < S.data.toList.length:=by rw [← hL,List.length_map] at h;exact h
 have h2:=congrArg (fun l=>l[j]?) hL
 simp only [List.getElem?_map] at h2
 rw [List.getElem?_eq_getElem h3,Option.map_some,gget h,Option.some.injEq] at h2
 simp only [gix,Int.toNat_natCast]
 rw [if_pos (by omega)]
 have h4:S[j]? =some (S.data.toList[j]):=by
  rw [getElem?_pos S j (by rw [← ByteArray.size_data,← Array.length_toList];exact h3)]
  rfl
 rw [h4,← h2];rfl
theorem fnd_yes {l:List Nat} {j:Nat} {r:Int} (h:fnd l r=(fnd (l.drop j) r).map (·+j)) (hj:j < l.length) (e:((l[j]!:Nat):Int)=r):fnd l r=some j:=by
 rw [h,List.drop_eq_getElem_cons hj,fnd,if_pos (by rw [← getElem!_pos l j hj];exact e)]
 simp
theorem fnd_no {l:List Nat} {j:Nat} {r:Int} (h:fnd l r=(fnd (l.drop j) r).map (·+j)) (hj:j < l.length) (e:¬ ((l[j]!:Nat):Int)=r):fnd l r=(fnd (l.drop (j+1)) r).map (·+(j+1)):=by
 rw [h,List.drop_eq_getElem_cons hj,fnd,if_neg (by rw [← getElem!_pos l j hj];exact e)]
 cases fnd (l.drop (j+1)) r with
 |none=>rfl
 |some m=>simp only [Option.map_some];congr 1;omega
theorem fnd_end {l:List Nat} {j:Nat} {r:Int} (h:fnd l r=(fnd (l.drop j) r).map (·+j)) (hj:l.length≤j):fnd l r=none:=by
 rw [h,List.drop_eq_nil_of_le hj];rfl
theorem carries_ok {r:Int} (hr:-2147483648≤r∧r≤2147483647) (H:GHeap):gev G 174 [.int .i32 r] H=some (.bool (decide (0≤idxN r)),H):=by
 refine gev_GWP (f:=174) rfl rfl rfl (fun Post hPost=>?_) H
 simp only [frameOf,Nat.reduceAdd]
 repeat' (first|refine zz1 @g174.eq_1 ?_|(refine zh (fun hc=>?_) (fun hc=>?_)<;>try simp only [yL] at hc))
 refine zc0 (one_of (idx_ok hr _)) fun r1 H1 hq=>?_
 obtain ⟨rfl,rfl⟩:=hq
 repeat' (first|refine zz1 @g174.eq_1 ?_|(refine zh (fun hc=>?_) (fun hc=>?_)<;>try simp only [yL] at hc))
 exact hPost _
theorem acc_ok {b:Int} (hb:0≤b∧b≤255) (H:GHeap):gev G 175 [.int .u8 b] H=some (.string (accS b),H):=by
 refine gev_GWP (f:=175) rfl rfl rfl (fun Post hPost=>?_) H
 simp only [frameOf,Nat.reduceAdd]
 have hP:∀ s,accS b=s→∀ H',Post (.string s) H':=fun s e H'=>e ▸ hPost H'
 clear hPost
 repeat' (first|(exfalso;omega)|refine zz1 @g175.eq_1 ?_|(refine zh (fun hc=>?_) (fun hc=>?_)<;>try simp only [yL] at hc))
 all_goals exact hP _ (by unfold accS;(repeat' split)<;>first|rfl|omega) _
set_option maxRecDepth 100000
def DIA:List Nat:=REP.filter fun x=>decide (127≤x) && (fnd SCH x).isNone
theorem dia_up:(DIA.all fun x=>DCH.any fun u=>uppA x == (u:Int))=true:=by kernel_rfl
theorem cr_run:((List.range 11).all fun i=>DCH.all fun u=>isB ((gbody (gcall G 60 8) 60 g125 [.string (accS (193+(i:Int))),.int .i32 (u:Int)] ⟨.nil,0,0⟩).map (·.1)) (inB (ACC (193+(i:Int))) u))=true:=by kernel_rfl
theorem rep_base:(REP.all fun x=>decide (0≤basA x∧basA x≤255))=true:=by kernel_rfl
set_option maxRecDepth 4000
theorem crune_ok {r:Int} (h0:0≤idxN r) (h1:¬ r < 127) (h2:fnd SCH r=none) {i:Nat} (hi:i < 11) (H:GHeap):
 gev G 125 [.string (accS (193+(i:Int))),.int .i32 (uppA r)] H=some (.bool (inB (ACC (193+(i:Int))) (uppA r)),H):=by
 obtain ⟨x,hx,rfl⟩:=idx_mem (r:=r) (by omega)
 have hm:x ∈ DIA:=List.mem_filter.2 ⟨hx,by simp [h2];omega⟩
 obtain ⟨u,hu,e⟩:=List.any_eq_true.1 (List.all_eq_true.1 dia_up x hm)
 rw [beq_iff_eq] at e
 rw [e]
 have h3:=List.all_eq_true.1 (List.all_eq_true.1 cr_run i (List.mem_range.2 hi)) u hu
 exact gev_run (f:=125) rfl rfl rfl (isB_eq h3) H
theorem base_le {r:Int} (h0:0≤idxN r):0≤basA r∧basA r≤255:=by
 obtain ⟨x,hx,rfl⟩:=idx_mem (r:=r) (by omega)
 have:=List.all_eq_true.1 rep_base x hx
 simpa using this
set_option maxRecDepth 4000
theorem put_ok {H:GHeap} (hw:H.wf) {r:Int} (hr:-2147483648≤r∧r≤2147483647):∃ v H',gev G 137 [.int .i32 r] H=some (v,H')∧OS 1 257 H H' v (putA r).length (ints .u8 (putA r)):=by
 refine gev_GW (f:=137) rfl fun Post hPost=>?_
 have hP:∀ l,putA r=l→∀ v H',OS 1 257 H H' v l.length (ints .u8 l)→Post v H':=fun l e v H' h=>hPost v H' (e ▸ h)
 clear hPost
 have hlim:=hw.1
 have hrg:=idx_range r
 simp only [frameOf,Nat.reduceAdd]
 repeat' (first|refine zz1 @g137.eq_1 ?_|(refine zh (fun hc=>?_) (fun hc=>?_)<;>try simp only [yL] at hc))
 refine zc0 (one_of (carries_ok hr _)) fun r1 H1 hq=>?_
 obtain ⟨rfl,rfl⟩:=hq
 repeat' (first|(exfalso;omega)|refine zz1 @g137.eq_1 ?_|(refine zh (fun hc=>?_) (fun hc=>?_)<;>try simp only [yL] at hc))
 case refine_1=>exact hP [] (by unfold putA;rw [if_pos (by omega)]) _ _ (OS.nil (Same.refl hw))
 case refine_2.refine_1=>exact hP [r] (by unfold putA;rw [if_neg (by omega),if_pos (by omega)]) _ _ (OS.made' (Same.refl hw) rfl)
 have hput:putA r=match fnd SCH r with
  |some i=>[((SBY[i]!:Nat):Int)]
  |none=>match dia r 11 193 with
   |some b=>[b,(basA r) % 256]
   |none=>[]:=by unfold putA;rw [if_neg (by omega),if_neg (by omega)]<;>rfl
 have hub:0≤basA r∧basA r≤255:=base_le (by omega)
 refine GW_loop (fun k fr H2=>∃ (n:Nat) (p:Value),k=31 - n∧n≤31∧fr.get 0=some (.int .i32 r)∧fr.get 3=some (.int .i64 n)∧fr.get 15=some (p)∧ItAt H2 p (SCH.drop n)∧fnd SCH r=(fnd (SCH.drop n) r).map (·+n)∧Same H1 H2∧H1.len≤itId p) ?_ 31 ?_
 case refine_2.refine_2.refine_2=>
  refine ⟨0,.pointer (some ⟨H1.len,0,none⟩),rfl,by omega,?_⟩
  simp only [↓yG,Nat.reduceEqDiff,↓reduceIte,Int.natCast_add,Int.cast_ofNat_Int,Int.natCast_zero,true_and,and_true,Option.some.injEq,Value.int.injEq]
  exact ⟨rns_sch ▸ ItAt.new (H:=H1) (s:=schS) hlim,by simp,(Same.refl hw).add _,Nat.le_refl _⟩
 rintro k fr H2 ⟨n,p,rfl,hn,f0,f3,f15,hI,hf,hS,hp⟩ J hJ
 by_cases hn1:n < 31
 ·rw [drop_bang (l:=SCH) hn1] at hI
  obtain ⟨pos,o,hx,hI',hx'⟩:=hI.cons
  have hlt:=hI.lt hS.wf
  have hS2:Same H1 (H2.put (itId p) o):=hS.put hp hlt o
  have hix:=fun k=>str_ix (S:=sbyS) sby_at (k:=k) (j:=n) hn1
  unfold sbyS at hix
  repeat' (first|(exfalso;omega)|refine zz6 @g137.eq_1 @f0 @f3 @f15 @hx @hix ?_|(refine zh (fun hc=>?_) (fun hc=>?_)<;>try simp only [yL] at hc))
  case pos.refine_1=>exact hP [((SBY[n]!:Nat):Int)] (by rw [hput,fnd_yes hf hn1 hc]) _ _ (OS.made' hS2 rfl)
  case pos.refine_2=>
   refine hJ _ _ ⟨31 - (n+1),by omega,n+1,p,rfl,by omega,?_⟩
   simp only [↓yG,Nat.reduceEqDiff,↓reduceIte,Int.natCast_add,Int.cast_ofNat_Int,Int.natCast_zero,true_and,and_true,Option.some.injEq,Value.int.injEq,f0,f15]
   exact ⟨hI',fnd_no hf hn1 hc,hS2,hp⟩
 ·obtain rfl:n=31:=by omega
  have hfn:fnd SCH r=none:=fnd_end hf (Nat.le_refl _)
  have hx:=ItAt.nil (v:=p) (H:=H2) (by simpa [SCH] using hI)
  repeat' (first|(exfalso;omega)|refine zz5 @g137.eq_1 @f0 @f3 @f15 @hx ?_|(refine zh (fun hc=>?_) (fun hc=>?_)<;>try simp only [yL] at hc))
  refine GW_loop (fun k fr H3=>∃ (i:Nat),k=11 - i∧i≤11∧fr.get 0=some (.int .i32 r)∧fr.get 6=some (.int .u8 (193+i))∧H3=H2∧dia r 11 193=dia r (11 - i) (193+i)) ?_ 11 ?_
  case neg.refine_2=>
   refine ⟨0,rfl,by omega,?_⟩
   simp only [↓yG,Nat.reduceEqDiff,↓reduceIte,Int.natCast_add,Int.cast_ofNat_Int,Int.natCast_zero,true_and,and_true,Option.some.injEq,Value.int.injEq,f0]
   exact ⟨rfl,rfl⟩
  rintro k fr2 H3 ⟨i,rfl,hi,w0,w6,rfl,hd⟩ J2 hJ2
  by_cases hi1:i < 11
  ·have hd1:dia r (11 - i) (193+i)=if inB (ACC (193+(i:Int))) (uppA r)=true then some (193+(i:Int)) else dia r (11 - (i+1)) (193+i+1):=by
    rw [show 11 - i=(10 - i)+1 by omega,dia,show 11 - (i+1)=10 - i by omega]
   repeat' (first|(exfalso;omega)|refine zz3 @g137.eq_1 @w0 @w6 ?_|(refine zh (fun hc=>?_) (fun hc=>?_)<;>try simp only [yL] at hc))
   refine zc2 @w0 @w6 (one_of (acc_ok (b:=193+(i:Int)) (by omega) _)) fun r2 H4 hq=>?_
   obtain ⟨rfl,rfl⟩:=hq
   repeat' (first|refine zz3 @g137.eq_1 @w0 @w6 ?_|(refine zh (fun hc=>?_) (fun hc=>?_)<;>try simp only [yL] at hc))
   refine zc2 @w0 @w6 (one_of (upper_ok hr _)) fun r2 H4 hq=>?_
   obtain ⟨rfl,rfl⟩:=hq
   repeat' (first|refine zz3 @g137.eq_1 @w0 @w6 ?_|(refine zh (fun hc=>?_) (fun hc=>?_)<;>try simp only [yL] at hc))
   refine zc2 @w0 @w6 (one_of (crune_ok (r:=r) (by omega) (by omega) hfn hi1 _)) fun r2 H4 hq=>?_
   obtain ⟨rfl,rfl⟩:=hq
   repeat' (first|refine zz3 @g137.eq_1 @w0 @w6 ?_|(refine zh (fun hc=>?_) (fun hc=>?_)<;>try simp only [yL] at hc))
   case pos.refine_1.refine_1=>
    refine zc2 @w0 @w6 (one_of (base_ok hr _)) fun r2 H4 hq=>?_
    obtain ⟨rfl,rfl⟩:=hq
    repeat' (first|refine zz3 @g137.eq_1 @w0 @w6 ?_|(refine zh (fun hc=>?_) (fun hc=>?_)<;>try simp only [yL] at hc))
    exact hP [193+(i:Int),basA r] (by rw [hput,hfn,hd,hd1,if_pos hc,Int.emod_eq_of_lt hub.1 (by omega)]) _ _ (OS.made' hS rfl)
   case pos.refine_1.refine_2=>
    refine hJ2 _ _ ⟨11 - (i+1),by omega,i+1,rfl,by omega,?_⟩
    simp only [↓yG,Nat.reduceEqDiff,↓reduceIte,Int.natCast_add,Int.cast_ofNat_Int,Int.natCast_zero,true_and,and_true,Option.some.injEq,Value.int.injEq,w0]
    refine ⟨by omega,?_⟩
    rw [hd,hd1,if_neg (by rw [hc];decide)]
    rfl
  ·obtain rfl:i=11:=by omega
   repeat' (first|(exfalso;omega)|refine zz3 @g137.eq_1 @w0 @w6 ?_|(refine zh (fun hc=>?_) (fun hc=>?_)<;>try simp only [yL] at hc))
   exact hP [] (by rw [hput,hfn,hd];rfl) _ _ (OS.nil hS)
set_option maxRecDepth 4000
theorem equal_ok {H:GHeap} {va vb:Value} {la lb:List Int} (ha:GRd H 1 va la.length (ints .u8 la)) (hb:GRd H 1 vb lb.length (ints .u8 lb)) (hla:la.length≤4611686018427387904) (hlb:lb.length≤4611686018427387904):
 ∃ r H',gev G 15 [va,vb] H=some (r,H')∧(r=.bool (decide (la=lb))∧H'=H):=by
 refine gev_GW (f:=15) rfl fun Post hPost=>?_
 have hsa:=ha.isSl
 have hsb:=hb.isSl
 simp only [frameOf,Nat.reduceAdd]
 repeat' (first|(exfalso;omega)|refine zz3 @g15.eq_1 hsa.len hsb.len ?_|(refine zh (fun hc=>?_) (fun hc=>?_)<;>try simp only [yL] at hc))
 case refine_1=>exact hPost _ _ ⟨by rw [decide_eq_false];intro h;subst h;exact hc rfl,rfl⟩
 have hll:la.length=lb.length:=by omega
 refine GW_loop (fun k fr H1=>∃ (j:Nat),k=la.length - j∧j≤la.length∧fr.get 0=some (va)∧fr.get 1=some (vb)∧fr.get 12=some (.int .i64 la.length)∧fr.get 13=some (.int .i64 j)∧H1=H∧la.take j=lb.take j) ?_ la.length ?_
 case refine_2.refine_2=>
  refine ⟨0,rfl,by omega,?_⟩
  simp only [↓yG,Nat.reduceEqDiff,↓reduceIte,Int.natCast_add,Int.cast_ofNat_Int,Int.natCast_zero,true_and,and_true,Option.some.injEq,Value.int.injEq]
  all_goals first|exact rfl|exact ⟨rfl,rfl⟩
 rintro k fr H1 ⟨j,rfl,hj,f0,f1,f12,f13,rfl,ht⟩ J hJ
 by_cases hj1:j < la.length
 ·have hra:H1.rd (blk va) (ofs va+j)=some (.int .u8 la[j]!):=by rw [ha.rd (by rw [ints_length];exact hj1),ints_at hj1]
  have hrb:H1.rd (blk vb) (ofs vb+j)=some (.int .u8 lb[j]!):=by rw [hb.rd (by rw [ints_length];omega),ints_at (by omega)]
  repeat' (first|(exfalso;omega)|refine zz9 @g15.eq_1 @f0 @f1 @f12 @f13 hsa.ix hsb.ix @hra @hrb ?_|(refine zh (fun hc=>?_) (fun hc=>?_)<;>try simp only [yL] at hc))
  case pos.refine_1.refine_1=>exact hPost _ _ ⟨by rw [decide_eq_false];intro h;subst h;exact hc rfl,rfl⟩
  case pos.refine_1.refine_2=>
   refine hJ _ _ ⟨la.length - (j+1),by omega,j+1,rfl,by omega,?_⟩
   simp only [↓yG,Nat.reduceEqDiff,↓reduceIte,Int.natCast_add,Int.cast_ofNat_Int,Int.natCast_zero,true_and,and_true,Option.some.injEq,Value.int.injEq,f0,f1,f12]
   rw [List.take_succ_eq_append_getElem hj1,List.take_succ_eq_append_getElem (show j < lb.length by omega),ht,← getElem!_pos la j hj1,← getElem!_pos lb j (by omega),hc]
 ·obtain rfl:j=la.length:=by omega
  repeat' (first|(exfalso;omega)|refine zz5 @g15.eq_1 @f0 @f1 @f12 @f13 ?_|(refine zh (fun hc=>?_) (fun hc=>?_)<;>try simp only [yL] at hc))
  refine hPost _ _ ⟨?_,rfl⟩
  rw [List.take_length,hll,List.take_length] at ht
  rw [decide_eq_true ht]
end Go.Gh
end
section
namespace Go.Gh
set_option linter.unusedSimpArgs false
set_option linter.unusedVariables false
set_option maxHeartbeats 4000000
set_option maxRecDepth 100000
def lk (d:Int):List Nat→Option Int
 |[]=>none
 |x :: t=>if basA x=d then some x else if basA (lowA x)=d then some (lowA x) else lk d t
def getA:List Int→Int × Int
 |[]=>(0,0)
 |c :: t=>if 32≤c∧c < 127 then (c,1) else match fnd SBY c with
  |some i=>((SCH[i]!:Nat),1)
  |none=>match t with
   |[]=>(0,0)
   |d :: _=>match lk d (ACC c) with
    |some x=>(x,2)
    |none=>(0,0)
def getB:List Int→Int × Int
 |[]=>(0,0)
 |c :: t=>if ¬ sngN c=0 then (sngN c,1) else match t with
  |[]=>(0,0)
  |d :: _=>if ¬ dblN c d=0 then (dblN c d,2) else (0,0)
def get1 (c:Int):Int:=if 32≤c∧c < 127 then c else match fnd SBY c with
 |some i=>(SCH[i]!:Nat)
 |none=>0
def lkN (c d:Int):Int:=match lk d (ACC c) with
 |some x=>x
 |none=>0
theorem tab1:((List.range 256).all fun c=>get1 c == sngN c)=true:=by kernel_rfl
theorem tab2:((List.range 11).all fun i=>(List.range 256).all fun d=>lkN (193+(i:Int)) d == dblN (193+(i:Int)) d)=true:=by kernel_rfl
theorem sch_pos:(SCH.all fun x=>decide (0 < x))=true:=by kernel_rfl
theorem acc_pos:((List.range 11).all fun i=>(ACC (193+(i:Int))).all fun x=>decide (0 < x∧0 < lowA x))=true:=by kernel_rfl
theorem acc_out {c:Int} (h:c < 193∨203 < c):ACC c=[]:=by
 unfold ACC
 (repeat' split)<;>first|rfl|omega
theorem mrk_in:(MRK.all fun x=>decide (193≤x∧x≤203))=true:=by kernel_rfl
theorem dblF_none {m c:Int} (h:m < 193∨203 < m):∀ k j,j+k≤25→dblF m c k j=none
 |0,_,_=>rfl
 |k+1,j,hk=>by
  have hj:j < MRK.length:=by show j < 25;omega
  have:=List.all_eq_true.1 mrk_in _ (List.getElem_mem hj)
  rw [decide_eq_true_eq,← getElem!_pos MRK j hj] at this
  rw [dblF,if_neg (by omega),dblF_none h k (j+1) (by omega)]
theorem dbl_out {c d:Int} (h:c < 193∨203 < c):dblN c d=0:=by
 unfold dblN
 split<;>rw [dblF_none h 25 0 (by omega)]
theorem lk_mem {d x:Int}:∀ {l:List Nat},lk d l=some x→∃ y ∈ l,x=y∨x=lowA y
 |[],h=>by cases h
 |y :: t,h=>by
  rw [lk] at h
  split at h
  ·cases h;exact ⟨y,by simp,.inl rfl⟩
  ·split at h
   ·cases h;exact ⟨y,by simp,.inr rfl⟩
   ·obtain ⟨z,hz,e⟩:=lk_mem h
    exact ⟨z,by simp [hz],e⟩
theorem lk_same {c d:Int} (_hc:0≤c∧c≤255) (hd:0≤d∧d≤255):lkN c d=dblN c d:=by
 by_cases h:c < 193∨203 < c
 ·rw [dbl_out h,lkN,acc_out h];rfl
 ·obtain ⟨i,rfl⟩:∃ i:Nat,c=193+(i:Int):=⟨(c - 193).toNat,by omega⟩
  obtain ⟨e,rfl⟩:∃ e:Nat,d=e:=⟨d.toNat,by omega⟩
  have:=List.all_eq_true.1 (List.all_eq_true.1 tab2 i (List.mem_range.2 (by omega))) e (List.mem_range.2 (by omega))
  simpa using this
theorem lk_pos {c d x:Int} (h:lk d (ACC c)=some x):0 < x:=by
 by_cases hc:c < 193∨203 < c
 ·rw [acc_out hc] at h;cases h
 ·obtain ⟨i,rfl⟩:∃ i:Nat,c=193+(i:Int):=⟨(c - 193).toNat,by omega⟩
  obtain ⟨y,hy,e⟩:=lk_mem h
  have:=List.all_eq_true.1 (List.all_eq_true.1 acc_pos i (List.mem_range.2 (by omega))) y hy
  simp only [decide_eq_true_eq] at this
  omega
theorem get_same {l:List Int} (hl:∀ x ∈ l,0≤x∧x≤255):getA l=getB l:=by
 match l,hl with
 |[],_=>rfl
 |c :: t,hl=>
  have hc:=hl c (by simp)
  have h1:get1 c=sngN c:=by
   obtain ⟨n,rfl⟩:∃ n:Nat,c=n:=⟨c.toNat,by omega⟩
   have:=List.all_eq_true.1 tab1 n (List.mem_range.2 (by omega))
   simpa using this
  simp only [getA,getB]
  by_cases h2:32≤c∧c < 127
  ·rw [if_pos h2]
   rw [get1,if_pos h2] at h1
   rw [if_pos (by omega),← h1]
  rw [if_neg h2]
  rw [get1,if_neg h2] at h1
  cases hf:fnd SBY c with
  |some i=>
   rw [hf] at h1
   simp only at h1 ⊢
   have hi:=(fnd_lt _ _ _ hf).1
   have hp:SCH[i]! ∈ SCH:=by rw [getElem!_pos SCH i hi];exact List.getElem_mem _
   have:=List.all_eq_true.1 sch_pos _ hp
   simp only [decide_eq_true_eq] at this
   rw [if_pos (by omega),← h1]
  |none=>
   rw [hf] at h1
   simp only at h1 ⊢
   rw [if_neg (by omega)]
   cases t with
   |nil=>rfl
   |cons d t=>
    have hd:=hl d (by simp)
    have h3:=lk_same hc hd
    simp only
    unfold lkN at h3
    cases hk:lk d (ACC c) with
    |some x=>
     rw [hk] at h3
     simp only at h3 ⊢
     have:=lk_pos hk
     rw [if_pos (by omega),← h3]
    |none=>
     rw [hk] at h3
     simp only at h3 ⊢
     rw [if_neg (by omega)]
end Go.Gh
end
