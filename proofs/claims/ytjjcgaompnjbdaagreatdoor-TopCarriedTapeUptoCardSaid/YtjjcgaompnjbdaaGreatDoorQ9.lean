/-
  Parts of the proof: walks of the ghost functions and the laws of what they compute. No condition.
-/
import Derived.Test.YtjjcgaompnjbdaaGreatDoorQ8
section
namespace Go.Gh
set_option linter.unusedSimpArgs false
set_option linter.unusedVariables false
set_option maxHeartbeats 4000000
open Go.RowKit
set_option maxRecDepth 4000
def bkH (b:Bk):List Int:=[0,b.n,0,b.x,0,b.i.h,b.i.m,b.i.s,b.i.f,b.o.h,b.o.m,b.o.s,b.o.f,b.r,b.al,0]
def bkB (b:Bk):List UInt8:=bU (bkH b) ++ (b.t ++ List.replicate (112 - b.t.length) 143)
theorem bkB_len {b:Bk} (k:BkOk b):(bkB b).length=128:=by
 have:=k.tl
 simp [bkB,bU_len,bkH]
 omega
theorem bkH_inR {b:Bk} (k:BkOk b):inR (bkH b):=by
 obtain ⟨k1,k2,⟨a1,a2,a3,a4⟩,⟨c1,c2,c3,c4⟩,k5,k6,k7,k8⟩:=k
 intro n hn
 simp only [bkH,List.mem_cons,List.not_mem_nil,or_false] at hn
 rcases hn with rfl|rfl|rfl|rfl|rfl|rfl|rfl|rfl|rfl|rfl|rfl|rfl|rfl|rfl|rfl|rfl<;>omega
theorem set16 {a b c d e f g h i j k l m n o p:Value}:((((((((((((((((u8s (List.replicate 16 0)).set 0 a).set 1 b).set 2 c).set 3 d).set 4 e).set 5 f).set 6 g).set 7 h).set 8 i).set 9 j).set 10 k).set 11 l).set 12 m).set 13 n).set 14 o).set 15 p=[a,b,c,d,e,f,g,h,i,j,k,l,m,n,o,p]:=rfl
theorem bput_ok {H:GHeap} (hw:H.wf) {v:Value} {b:Bk} (hb:BkR H v b) (k:BkOk b):∃ r H',gev G 89 [bkV v b] H=some (r,H')∧∃ w,r=.tuple #[w,.int .i64 0]∧OS 1 257 H H' w 128 (u8s (bkB b)):=by
 refine gev_GW (f:=89) rfl fun Post hPost=>?_
 have hlim:=hw.1
 have hf:=bk_all (b:=b) hb.flat
 simp only [frameOf,Nat.reduceAdd]
 obtain ⟨H1,hH1⟩:∃ H1,H1=H.add (some (.cells (bkC v b) 0 true)):=⟨_,rfl⟩
 have hS1:Same H H1:=hH1 ▸ (Same.refl hw).add _
 have hl1:H.len < H1.len:=by rw [hH1,len_add];omega
 have q0:∀ c,H1.rd H.len c=(bkC v b)[c]?:=fun c=>by rw [hH1];exact rd_add_eq rfl
 have q18:H1.rdn H.len 0 18=some (bkV v b):=by rw [hH1];exact bk_r18 rfl
 have hHs:=hH1.symm
 clear hH1
 repeat' (first|refine zz5 @g89.eq_1 @RBk @hf @hHs @q18 ?_|(refine zh (fun hc=>?_) (fun hc=>?_)<;>try simp only [yL] at hc))
 refine zc0 (bchk_ok hS1.wf (hb.later hw hS1) k) fun r2 H2 hq=>?_
 obtain ⟨rfl,hS2⟩:=hq
 have q:∀ c,H2.rd H.len c=(bkC v b)[c]?:=fun c=>by rw [hS2.rd hl1];exact q0 c
 have hS02:=hS1.trans hS2
 have hw2:=hS2.wf
 have hlim2:=hw2.1
 have hin:=bkH_inR k
 have htl:=k.tl
 have hsh:gbin .shr none (.int .i64 (b.n:Int)) (.int .u64 8)=some (.int .i64 0):=by
  have:=gb_shr (e:=none) (k:=.i64) (k':=.u64) (a:=b.n) (s:=8) (by decide)
  rw [show b.n / 2 ^ 8=0 by have:=k.n;omega] at this
  exact this
 obtain ⟨H3,hH3⟩:∃ H3,H3=H2.add (some (.cells (ints .u8 (bkH b)) 257 true)):=⟨_,rfl⟩
 have hO3:OS 1 257 H2 H3 (.slice (some ⟨H2.len,0,none⟩) 16 17) 16 (u8s (bU (bkH b))):=by
  rw [hH3,bU_ints hin];exact OS.made' (Same.refl hw2) (by simp [u8s_length,bU_len,bkH])
 have hHs3:=hH3.symm
 simp only [ints,bkH,List.map_cons,List.map_nil] at hHs3
 clear hH3
 have hb3:=(hb.later hw (hS02.trans hO3.same)).rb
 have q3:H3.rd H.len 17=some v:=by rw [hO3.same.rd (Nat.lt_of_lt_of_le hl1 hS2.len)];exact q 17
 obtain ⟨v4,H4,e4,hO4,_⟩:=hO3.appN (by decide) (by decide) hb3 (b:=1) (by omega) (by omega)
 rw [← u8s_append] at hO4
 have hw4:=hO4.same.wf
 have hlim4:=hw4.1
 obtain ⟨H5,hH5⟩:∃ H5,H5=H4.add (some (.cells [.int .u8 143] 257 true)):=⟨_,rfl⟩
 have hS45:Same H4 H5:=hH5 ▸ (Same.refl hw4).add _
 have hrp:=rep_ok (H:=H5) (i:=H4.len) (o:=0) (gc:=2) (cs:=[.int .u8 143]) (x:=143) (n:=112 - b.t.length) (by rw [hH5];exact cs_add_eq rfl) rfl (by omega)
 obtain ⟨H6,hH6⟩:∃ H6,H6=H5.add (some (.cells (u8s (List.replicate (112 - b.t.length) 143)) 257 true)):=⟨_,rfl⟩
 have hO6:OS 1 257 H5 H6 (.slice (some ⟨H5.len,0,none⟩) (112 - b.t.length) (112 - b.t.length+1)) (112 - b.t.length) (u8s (List.replicate (112 - b.t.length) 143)):=by
  rw [hH6];exact OS.made' (Same.refl hS45.wf) (by simp [u8s_length])
 rw [← hH6] at hrp
 have hO46:=hO4.later (hS45.trans hO6.same)
 have hO7':GArg1 H6 1 (.slice (some ⟨H5.len,0,none⟩) (112 - b.t.length) (112 - b.t.length+1)) (112 - b.t.length) (u8s (List.replicate (112 - b.t.length) 143)):=hO6.arg
 obtain ⟨v7,H7,e7,hO7,_⟩:=hO46.appN (by decide) (by decide) hO7' (b:=1) (by omega) (by omega)
 rw [← u8s_append,show bU (bkH b) ++ b.t ++ List.replicate (112 - b.t.length) 143=bkB b by simp [bkB,List.append_assoc],show 16+b.t.length+(112 - b.t.length)=128 by omega] at hO7
 have hHs5:=hH5.symm
 clear hH5 hH6
 have hsl4:=hO46.rb.isSl
 have hl4:((bU (bkH b) ++ b.t).length:Int)=16+b.t.length:=by simp [bU_len,bkH]
 have hsub:(128:Int) - (16+b.t.length)=((112 - b.t.length:Nat):Int):=by omega
 obtain ⟨k1,k2,⟨a1,a2,a3,a4⟩,⟨c1,c2,c3,c4⟩,k5,k6,k7,k8⟩:=k
 repeat' (first|refine zz16 @g89.eq_1 @RK @RBk @q @hsh @set16 @hHs3 @q3 @e4 @set1 @hHs5 hsl4.len @hl4 @hsub @hrp @e7 ?_|(refine zh (fun hc=>?_) (fun hc=>?_)<;>try simp only [yL] at hc))
 exact hPost _ _ ⟨_,rfl,hO7.weaken hS02⟩
end Go.Gh
end
section
namespace Go.Gh
set_option linter.unusedSimpArgs false
set_option linter.unusedVariables false
set_option maxHeartbeats 4000000
open Go.RowKit
set_option maxRecDepth 4000
theorem ixn_ok {H:GHeap} {v w:Value} {a:List UInt8} (hv:RB H v a) (h0:a≠[]) (hw:RB H w [143]) (hn:∀ c ∈ a,c≠143):gev G 185 [v,w] H=some (.int .i64 (-1),H):=by
 refine gev_ext (f:=185) rfl ?_
 obtain ⟨i,o,gc,cs,rfl,h1,h2⟩:=rb_cs hv h0
 obtain ⟨j,p,gd,ds,rfl,h3,h4⟩:=rb_cs hw (by simp)
 obtain ⟨n,hn'⟩:∃ n,a.length=n+1:=⟨a.length - 1,by have:=List.length_pos_iff.2 h0;omega⟩
 have h5:ds[p]? =some (.int .u8 143):=by
  have:=congrArg (fun z=>z[0]?) h4
  simpa [u8s] using this
 rw [hn'] at h2 ⊢
 simp only [List.length_singleton,runIx,h1,h3,h2,rdB_u8s,h5,hn',if_true]
 rw [show ((143:Int).toNat.toUInt8)=143 from rfl,ix_none hn]
theorem cut_ok {H:GHeap} {v w:Value} {a:List UInt8} {m:Nat} (hv:RB H v (a ++ List.replicate m 143)) (hw:RB H w [143]) (h0:a≠[]) (hn:∀ c ∈ a,c≠143) (hl:a.length≤1000):
 ∃ r H',gev G 151 [v,w] H=some (r,H')∧((∃ x y c,r=.tuple #[x,y,.bool c]∧RB H x a)∧H'=H):=by
 refine gev_GW (f:=151) rfl fun Post hPost=>?_
 simp only [frameOf,Nat.reduceAdd]
 have hsl:=hw.isSl
 have hp:0 < a.length:=List.length_pos_iff.2 h0
 cases m with
 |zero=>
  have hv0:RB H v a:=by simpa using hv
  have e1:=ixn_ok hv0 h0 hw hn
  have z0:decide (0≤(-1:Int))=false:=rfl
  repeat' (first|refine zz4 @g151.eq_1 @RK @e1 @z0 ?_|(refine zh (fun hc=>?_) (fun hc=>?_)<;>try simp only [yL] at hc))
  exact hPost _ _ ⟨⟨_,_,_,rfl,hv0⟩,rfl⟩
 |succ m=>
  rw [List.replicate_succ] at hv
  have e1:=ix_ok hv hw hn
  have z0:decide (0≤(a.length:Int))=true:=decide_eq_true (by omega)
  have hl2:(a ++ 143 :: List.replicate m 143).length=a.length+1+m:=by simp;omega
  obtain ⟨x,s1,r1⟩:=hv.preM (b:=(a.length:Int)) (m:=a) (by omega) (by rw [hl2];omega) (by simp)
  obtain ⟨y,s2,r2⟩:=hv.suf (k:=.i64) (a:=(a.length:Int)+1) (by omega) (by rw [hl2];omega)
  have e2:((1:Nat):Int)=1:=rfl
  repeat' (first|refine zz8 @g151.eq_1 @RK @e1 @z0 hsl.len @e2 @s1 @s2 ?_|(refine zh (fun hc=>?_) (fun hc=>?_)<;>try simp only [yL] at hc))
  exact hPost _ _ ⟨⟨_,_,_,rfl,r1⟩,rfl⟩
theorem bcl_ok {H:GHeap} (hw:H.wf) {v:Value} {a:List UInt8} (hv:RB H v a) (h0:a≠[]) (hl:a.length≤1000000):
 ∃ r H',gev G 87 [v] H=some (r,H')∧OS 1 257 H H' r a.length (u8s a):=by
 refine gev_GW (f:=87) rfl fun Post hPost=>?_
 have hlim:=hw.1
 simp only [frameOf,Nat.reduceAdd]
 obtain ⟨i,o,gc,cs,e,_,_⟩:=rb_cs hv h0
 have heq:gbin .eql (some .sl) v (.slice none 0 0)=some (.bool false):=by rw [e];simp [gbin,geq,geqIn]
 have hO1:OS 1 257 H (H.add (some (.cells [] 257 true))) (.slice (some ⟨H.len,0,none⟩) 0 1) 0 []:=OS.made' (Same.refl hw) rfl
 obtain ⟨v',H',e2,hO2,_⟩:=hO1.appN (by decide) (by decide) (hv.same_ hw hO1.same) (b:=1) (by omega) (by omega)
 have ez:fillL (zeros [.int .u8 0] 0) []=some []:=rfl
 repeat' (first|refine zz4 @g87.eq_1 @heq @ez @e2 ?_|(refine zh (fun hc=>?_) (fun hc=>?_)<;>try simp only [yL] at hc))
 rw [Nat.zero_add,List.nil_append] at hO2
 exact hPost _ _ hO2
theorem times_ok {H:GHeap} (hw:H.wf) {v:Value} {a b c d:UInt8} {l:List UInt8} (hv:RB H v (a :: b :: c :: d :: l)):
 ∃ r H',gev G 150 [v] H=some (r,H')∧(r=lbV ⟨a.toNat,b.toNat,c.toNat,d.toNat⟩∧Same H H'):=by
 refine gev_GW (f:=150) rfl fun Post hPost=>?_
 have hlim:=hw.1
 simp only [frameOf,Nat.reduceAdd]
 obtain ⟨H1,hH1⟩:∃ H1,H1=H.add (some (.cells [.int .i64 0,.int .i64 0,.int .i64 0,.int .i64 0,.bool false] 0 true)):=⟨_,rfl⟩
 have hS1:Same H H1:=hH1 ▸ (Same.refl hw).add _
 have m1:H1.mine H.len=some ([.int .i64 0,.int .i64 0,.int .i64 0,.int .i64 0,.bool false],0):=by rw [hH1];exact mine_add_eq rfl hlim
 have hv1:=hv.same_ hw hS1
 have hsl:=hv1.isSl
 have e0:H1.rd (blk v) (ofs v)=some (.int .u8 a.toNat):=hv1.read (k:=0) (by simp)
 have e1:H1.rd (blk v) (ofs v+1)=some (.int .u8 b.toNat):=hv1.read (k:=1) (by simp)
 have e2:H1.rd (blk v) (ofs v+2)=some (.int .u8 c.toNat):=hv1.read (k:=2) (by simp)
 have e3:H1.rd (blk v) (ofs v+3)=some (.int .u8 d.toNat):=hv1.read (k:=3) (by simp)
 have a1:=a.toNat_lt
 have a2:=b.toNat_lt
 have a3:=c.toNat_lt
 have a4:=d.toNat_lt
 have x0:=hsl.ix (size:=1) (k:=.i64) (j:=0) (by omega) (by simp;omega)
 have x1:=hsl.ix (size:=1) (k:=.i64) (j:=1) (by omega) (by simp;omega)
 have x2:=hsl.ix (size:=1) (k:=.i64) (j:=2) (by omega) (by simp;omega)
 have x3:=hsl.ix (size:=1) (k:=.i64) (j:=3) (by omega) (by simp;omega)
 have hHs:=hH1.symm
 clear hH1
 simp only [Int.reduceToNat,Nat.mul_one,Nat.add_zero,Nat.reduceMul] at x0 x1 x2 x3
 repeat' (first|refine zz12 @g150.eq_1 @hHs @RLb @x0 @x1 @x2 @x3 @e0 @e1 @e2 @e3 @m1 ?_|(refine zh (fun hc=>?_) (fun hc=>?_)<;>try simp only [yL] at hc))
 exact hPost _ _ ⟨rfl,hS1.put (Nat.le_refl _) (by rw [← hHs,len_add];omega) _⟩
end Go.Gh
end
section
namespace Go.Gh
set_option linter.unusedSimpArgs false
set_option linter.unusedVariables false
set_option maxHeartbeats 4000000
open Go.RowKit
set_option maxRecDepth 4000
theorem or0 {n:Nat} (h:n≤255):gbin .or none (.int .i64 (n:Int)) (.int .i64 0)=some (.int .i64 n):=by
 have e:gbin .or none (.int .i64 (n:Int)) (.int .i64 0)=some (.int .i64 (IntKind.i64.wrap ((BitVec.ofInt 64 (n:Int) ||| BitVec.ofInt 64 0).toNat:Int))):=rfl
 have e2:(BitVec.ofInt 64 (n:Int) ||| BitVec.ofInt 64 0).toNat=n:=by simp;omega
 rw [e,e2,wr_i64 (by omega)]
theorem shl0:gbin .shl none (.int .i64 0) (.int .u64 8)=some (.int .i64 0):=rfl
theorem bk_fill {v:Value} {n r x al:Int} {i o:Lb}:fillL [.int .i64 0,.int .i64 0,.int .u8 0,.int .u8 0,.int .i64 0,.int .i64 0,.int .i64 0,.int .i64 0,.bool false,.int .i64 0,.int .i64 0,.int .i64 0,.int .i64 0,.bool false,.int .i64 0,.int .u8 0,.bool false,v] [(0,1,.int .i64 0),(1,1,.int .i64 n),(2,1,.int .u8 x),(3,1,.int .u8 0),(4,5,lbV i),(9,5,lbV o),(14,1,.int .i64 r),(15,1,.int .u8 al),(16,1,.bool false)]=some ([.int .i64 0,.int .i64 n,.int .u8 x,.int .u8 0,.int .i64 i.h,.int .i64 i.m,.int .i64 i.s,.int .i64 i.f,.bool false,.int .i64 o.h,.int .i64 o.m,.int .i64 o.s,.int .i64 o.f,.bool false,.int .i64 r,.int .u8 al,.bool false,v]):=by kernel_rfl
theorem bk_fold' {v:Value} {b:Bk}:Value.agg [.int .i64 0,.int .i64 (b.n:Int),.int .u8 b.x,.int .u8 0,.int .i64 b.i.h,.int .i64 b.i.m,.int .i64 b.i.s,.int .i64 b.i.f,.bool false,.int .i64 b.o.h,.int .i64 b.o.m,.int .i64 b.o.s,.int .i64 b.o.f,.bool false,.int .i64 b.r,.int .u8 b.al,.bool false,v].toArray=bkV v b:=rfl
theorem bU_at {z:Int} (h:0≤z∧z≤255):((UInt8.ofNat z.toNat).toNat:Int)=z:=by rw [UInt8.toNat_ofNat'];omega
theorem bget_ok {H:GHeap} (hw:H.wf) {p:Value} {b:Bk} (k:BkOk b) (h0:b.t≠[]) (hp:RB H p (bkB b)):∃ r H',gev G 91 [p] H=some (r,H')∧∃ w,r=.tuple #[bkV w b,.int .i64 0]∧OS 1 257 H H' w b.t.length (u8s b.t):=by
 refine gev_GW (f:=91) rfl fun Post hPost=>?_
 have hlim:=hw.1
 have hl:=bkB_len k
 have htl:=k.tl
 have hin:=bkH_inR k
 simp only [frameOf,Nat.reduceAdd]
 have d0:decide (¬ ((bkB b).length:Int)=128)=false:=decide_eq_false (by omega)
 obtain ⟨Z,hZ⟩:∃ Z:List Value,Z=[.int .i64 0,.int .i64 0,.int .u8 0,.int .u8 0,.int .i64 0,.int .i64 0,.int .i64 0,.int .i64 0,.bool false,.int .i64 0,.int .i64 0,.int .i64 0,.int .i64 0,.bool false,.int .i64 0,.int .u8 0,.bool false,.slice none 0 0]:=⟨_,rfl⟩
 have hZl:Z.length=18:=by rw [hZ];rfl
 obtain ⟨H1,hH1⟩:∃ H1,H1=H.add (some (.cells Z 0 true)):=⟨_,rfl⟩
 have hS1:Same H H1:=hH1 ▸ (Same.refl hw).add _
 have m1:H1.mine H.len=some (Z,0):=by rw [hH1];exact mine_add_eq rfl hlim
 have hw1:=hS1.wf
 have hp1:=hp.same_ hw hS1
 have hsl:=hp1.isSl
 have hHs:=hH1.symm
 rw [hZ] at hHs
 clear hH1
 have rdk:∀ {H':GHeap},Same H1 H'→∀ j z,(bkH b)[j]? =some z→H'.rd (blk p) (ofs p+j)=some (.int .u8 z):=fun {H'} hs j z hz=>by
  have hj:j < (bkH b).length:=(List.getElem?_eq_some_iff.1 hz).1
  have:=(hp1.same_ hw1 hs).rd.rd (c:=j) (by rw [u8s_length,hl];have:(bkH b).length=16:=rfl;omega)
  rw [this,bkB,u8s_append,← bU_ints hin,List.getElem?_append_left (by simpa [ints] using hj)]
  simp [ints,hz]
 obtain ⟨k1,k2,k3,k4,k5,k6,k7,k8⟩:=id k
 have e0:=rdk (Same.refl hw1) 0 _ rfl
 rw [Nat.add_zero] at e0
 have e1:=rdk (Same.refl hw1) 1 _ rfl
 have e2:=rdk (Same.refl hw1) 2 _ rfl
 have e3:=rdk (Same.refl hw1) 3 _ rfl
 have e4:=rdk (Same.refl hw1) 4 _ rfl
 have hor:=or0 k1
 obtain ⟨a1,a2,a3,a4⟩:=id k3
 obtain ⟨c1,c2,c3,c4⟩:=id k4
 have h5:(bkB b).drop 5=UInt8.ofNat b.i.h.toNat :: UInt8.ofNat b.i.m.toNat :: UInt8.ofNat b.i.s.toNat :: UInt8.ofNat b.i.f.toNat :: ((bkB b).drop 9):=rfl
 have h9:(bkB b).drop 9=UInt8.ofNat b.o.h.toNat :: UInt8.ofNat b.o.m.toNat :: UInt8.ofNat b.o.s.toNat :: UInt8.ofNat b.o.f.toNat :: ((bkB b).drop 13):=rfl
 obtain ⟨p5,s5,r5⟩:=hp1.sufM (a:=5) (by omega) (by omega) h5
 repeat' (first|refine zz14 @g91.eq_1 @RK hsl.len @d0 @hHs hsl.ix @e0 @e1 @e2 @e3 @e4 @shl0 @hor @s5 ?_|(refine zh (fun hc=>?_) (fun hc=>?_)<;>try simp only [yL] at hc))
 refine zm0 (times_ok (wf_up hw1) r5.up) fun r2 H2 hq=>?_
 obtain ⟨rfl,hS2⟩:=hq
 replace hS2:=Same.down hw1 hS2
 generalize H2.down H1.lim=H2 at *
 rw [bU_at (by omega),bU_at (by omega),bU_at (by omega),bU_at (by omega)]
 have hw2:=hS2.wf
 obtain ⟨p9,s9,r9⟩:=(hp1.same_ hw1 hS2).sufM (a:=9) (by omega) (by omega) h9
 repeat' (first|refine zz3 @g91.eq_1 @RK @s9 ?_|(refine zh (fun hc=>?_) (fun hc=>?_)<;>try simp only [yL] at hc))
 refine zm0 (times_ok (wf_up hw2) r9.up) fun r3 H3 hq=>?_
 obtain ⟨rfl,hS3⟩:=hq
 replace hS3:=Same.down hw2 hS3
 generalize H3.down H2.lim=H3 at *
 rw [bU_at (by omega),bU_at (by omega),bU_at (by omega),bU_at (by omega)]
 have hw3:=hS3.wf
 have hlim3:=hw3.1
 have hS13:=hS2.trans hS3
 have e13:=rdk hS13 13 _ rfl
 have e14:=rdk hS13 14 _ rfl
 have e15:=rdk hS13 15 _ rfl
 have z1:decide ((0:Int)=1)=false:=rfl
 obtain ⟨H4,hH4⟩:∃ H4,H4=(H3.add (some (.cells Z 0 true))).put H3.len (.cells (bkC (.slice none 0 0) b) 0 true):=⟨_,rfl⟩
 have hS34:Same H3 H4:=hH4 ▸ (Same.refl hw3).new _ _
 have hS4:=hS13.trans hS34
 have hw4:=hS4.wf
 have hlim4:=hw4.1
 have m4:H4.mine H3.len=some (bkC (.slice none 0 0) b,0):=by rw [hH4,mine_put_same (by rw [lim_add];exact hlim3)]
 have hl34:H3.len < H4.len:=by rw [hH4];simp only [len_put,len_add];omega
 have hHs4:=hH4.symm
 rw [hZ] at hHs4
 clear hH4
 have st0:=bk_set (v:=.slice none 0 0) (b:=b) hZl rfl
 rw [hZ] at st0
 have hT:(bkB b).drop 16=b.t ++ List.replicate (112 - b.t.length) 143:=by
  rw [bkB,List.drop_append,List.drop_of_length_le (by simp [bU_len,bkH])];simp [bU_len,bkH]
 obtain ⟨pT,sT,rT⟩:=(hp1.same_ hw1 hS4).sufM (a:=16) (by omega) (by omega) hT
 obtain ⟨H5,hH5⟩:∃ H5,H5=H4.add (some (.cells [.int .u8 143] 257 true)):=⟨_,rfl⟩
 have hS45:Same H4 H5:=hH5 ▸ (Same.refl hw4).add _
 have hO5:OS 1 257 H4 H5 (.slice (some ⟨H4.len,0,none⟩) 1 2) 1 (u8s [143]):=by
  rw [hH5];exact OS.made' (Same.refl hw4) rfl
 have hHs5:=hH5.symm
 clear hH5
 repeat' (first|refine zz15 @g91.eq_1 @RK hsl.len hsl.ix @e13 @e14 @e15 @z1 @bk_fill @bk_fold' @st0 @hHs4 @sT @set1 @hHs5 ?_|(refine zh (fun hc=>?_) (fun hc=>?_)<;>try simp only [yL] at hc))
 refine zc0 (cut_ok (rT.same_ hw4 hS45) hO5.rb h0 k8 (by omega)) fun r6 H6 hq=>?_
 obtain ⟨⟨x,y,c,rfl,rX⟩,rfl⟩:=hq
 repeat' (first|refine zz2 @g91.eq_1 @RK ?_|(refine zh (fun hc=>?_) (fun hc=>?_)<;>try simp only [yL] at hc))
 have hw5:=hS45.wf
 refine zc0 (bcl_ok hw5 rX h0 (by omega)) fun r7 H7 hq=>?_
 have hS47:=hS45.trans hq.same
 have hS7:=hS4.trans hS47
 have m7:=hS47.mine hl34
 rw [m4] at m7
 have hl7:=hS47.len
 have hfl:=BkR.flat (b:=b) ⟨hq.rb,.inr h0⟩
 have st17:=bk_s17 (v:=.slice none 0 0) (b:=b) hfl
 obtain ⟨H8,hH8⟩:∃ H8,H8=H7.put H3.len (.cells (bkC r7 b) 0 true):=⟨_,rfl⟩
 have hS78:Same H4 H7:=hS47
 have hS8:Same H1 H8:=by rw [hH8];exact hS7.put hS13.len (by omega) _
 have p8:H8.rdn H3.len 0 18=some (bkV r7 b):=by rw [hH8];exact bk_p18
 have hl8:H3.len < H8.len:=by rw [hH8,len_put];omega
 have hll:=hS45.len
 have hOr:OS 1 257 H3 H8 r7 b.t.length (u8s b.t):=by
  rw [hH8]
  exact (hq.weaken (hS34.trans hS45)).but ((But.refl (S:=fun j=>j=H3.len) hS7.wf).put rfl (by omega) _) (fun j hj e=>by omega) fun a ha e=>by have:=(hq.ids ha).1;omega
 have hr8:=hOr.rb
 have hHs8:=hH8.symm
 clear hH8
 repeat' (first|refine zz7 @g91.eq_1 @RK @m7 @st17 @bk_len @hHs8 @p8 ?_|(refine zh (fun hc=>?_) (fun hc=>?_)<;>try simp only [yL] at hc))
 refine zc0 (bput_ok hS8.wf ⟨hr8,.inr h0⟩ k) fun r9 H9 hq9=>?_
 obtain ⟨vP,rfl,hO9⟩:=hq9
 have hS9:=hS8.trans hO9.same
 have c9:=bEq_ok (hp1.same_ hw1 hS9) hO9.rb
 have d9:decide (bkB b=bkB b)=true:=decide_eq_true rfl
 have q9:=(hO9.same.rdn hl8).trans p8
 have m9:=hS9.mine (i:=H.len) (by rw [← hHs,len_add];omega)
 rw [m1] at m9
 have hll9:=hS9.len
 have st9:=bk_set (v:=r7) (b:=b) hZl (BkR.flat (b:=b) ⟨hr8,.inr h0⟩)
 have z0:decide (¬ True)=false:=rfl
 repeat' (first|refine zz10 @g91.eq_1 @RK @z0 @c9 @d9 @q9 @m9 @st9 @hZl @bk_p18 ?_|(refine zh (fun hc=>?_) (fun hc=>?_)<;>try simp only [yL] at hc))
 have hll3:=(hS1.trans hS13).len
 exact hPost _ _ ⟨_,rfl,((hOr.later hO9.same).weaken (hS1.trans hS13)).but ((But.refl (S:=fun j=>j=H.len) hO9.same.wf).put rfl (by rw [← hHs,len_add] at hll9;omega) _) (fun j hj e=>by omega) fun a ha e=>by have:=(hq.ids ha).1;omega⟩
end Go.Gh
end
section
namespace Go.Gh
set_option linter.unusedSimpArgs false
set_option linter.unusedVariables false
set_option maxHeartbeats 4000000
open Go.RowKit
set_option maxRecDepth 4000
abbrev VB:=Value × Bk
def bkx (p:VB):List Value:=bkC p.1 p.2
theorem bkx_len (p:VB):(bkx p).length=18:=rfl
def BkL (L:List VB):List Value:=L.flatMap bkx
structure BlR (H:GHeap) (v:Value) (L:List VB):Prop where
 rd:GArg1 H 18 v L.length (BkL L)
 rows:∀ x ∈ L,RB H x.1 x.2.t
structure BO (H0 H:GHeap) (v:Value) (L:List VB):Prop where
 own:OS 18 18 H0 H v L.length (BkL L)
 rows:∀ x ∈ L,OS 1 257 H0 H x.1 x.2.t.length (u8s x.2.t)
section
variable {H0 H H':GHeap} {v:Value} {L:List VB}
theorem BO.rd (h:BO H0 H v L):BlR H v L:=⟨OwnG.arg h.own.same.wf h.own.own (.inr rfl),fun x hx=>(h.rows x hx).rb⟩
theorem BO.later (h:BO H0 H v L) (hs:Same H H'):BO H0 H' v L:=⟨h.own.later hs,fun x hx=>(h.rows x hx).later hs⟩
theorem BO.weaken {K:GHeap} (h:BO H0 H v L) (hs:Same K H0):BO K H v L:=⟨h.own.weaken hs,fun x hx=>(h.rows x hx).weaken hs⟩
theorem BO.nil (hs:Same H0 H):BO H0 H (.slice none 0 0) []:=⟨OS.nil hs,fun x hx=>by cases hx⟩
theorem BlR.later (h:BlR H v L) (hw:H.wf) (hs:Same H H'):BlR H' v L:=⟨GArg1.same h.rd hw hs,fun x hx=>(h.rows x hx).same_ hw hs⟩
theorem BO.snoc {w:Value} {b:Bk} (h:BO H0 H v L) (hx:OS 1 257 H0 H w b.t.length (u8s b.t)) (hl:L.length < 1000000):
 ∃ v' H',gapp 18 144 18 (H.add (some (.cells (bkC w b) 18 true))) v (.slice (some ⟨H.len,0,none⟩) 1 2)=some (v',H')∧BO H0 H' v' (L ++ [(w,b)])∧But (fun j=>j ∈ idOf v) H H':=by
 obtain ⟨v',H',e,hO,hB⟩:=h.own.app1 (by decide) (by decide) (news:=bkC w b) rfl (b:=144) (by omega) (by omega)
 have key:∀ {x:Value} {t:List UInt8},OS 1 257 H0 H x t.length (u8s t)→OS 1 257 H0 H' x t.length (u8s t):=fun k=>k.but hB (fun k hk ha=>by have:=(h.own.ids ha).1;omega) (k.unit_ne h.own (by decide))
 refine ⟨v',H',e,⟨by simpa [BkL,bkx] using hO,fun y hy=>?_⟩,hB⟩
 rcases List.mem_append.1 hy with hy|hy
 ·exact key (h.rows y hy)
 ·rw [List.mem_singleton.1 hy];exact key hx
end
def pcs (T:List UInt8):Nat:=(T.length+111) / 112
def splX (b:Bk) (T:List UInt8) (i:Nat):Bk:={b with x:=if i+1=pcs T then 255 else i,t:=(T.drop (i * 112)).take 112}
def splF (b:Bk) (T:List UInt8):List Bk:=(List.range (pcs T)).map (splX b T)
theorem splF_len (b:Bk) (T:List UInt8):(splF b T).length=pcs T:=by simp [splF]
theorem splF_succ (b:Bk) (T:List UInt8) {i:Nat} (h:i < pcs T):(splF b T).take (i+1)=(splF b T).take i ++ [splX b T i]:=by
 rw [List.take_succ_eq_append_getElem (by rw [splF_len];exact h)]
 simp [splF]
theorem bk_s2 {v:Value} {b:Bk} {x:Int}:gset (bkC v b) 2 (.int .u8 x)=some (bkC v {b with x:=x}):=gset_ok (by simp [bkC]) rfl
theorem bk_fillS {v:Value} {b:Bk} (hf:flatV v=true):fillL (zeros [.int .i64 0,.int .i64 0,.int .u8 0,.int .u8 0,.int .i64 0,.int .i64 0,.int .i64 0,.int .i64 0,.bool false,.int .i64 0,.int .i64 0,.int .i64 0,.int .i64 0,.bool false,.int .i64 0,.int .u8 0,.bool false,.slice none 0 0] 1) [(0,18,bkV v b)]=some (bkC v b):=by
 have:(bkC v b).all flatV=true:=by simp [bkC,flatV_int,flatV_bool,hf]
 simp only [fillL,bk_list,this]
 simp [bkC,zeros]
theorem split_ok {H:GHeap} (hw:H.wf) {b:Bk} (k:BkOk b) (hx:b.x=0) (ht:b.t=[]) {tv:Value} {T:List UInt8} (hT:RB H tv T) (h0:T≠[]) (hl:T.length≤20000) (hn:∀ c ∈ T,c≠143):
 ∃ r H',gev G 39 [bkV (.slice none 0 0) b,tv] H=some (r,H')∧∃ v L,r=.tuple #[v,.int .i64 0]∧BO H H' v L∧L.map (·.2)=splF b T:=by
 refine gev_GW (f:=39) rfl fun Post hPost=>?_
 have hlim:=hw.1
 have hf:=bk_all (v:=.slice none 0 0) (b:=b) rfl
 have hp:0 < T.length:=List.length_pos_iff.2 h0
 simp only [frameOf,Nat.reduceAdd]
 obtain ⟨H1,hH1⟩:∃ H1,H1=H.add (some (.cells (bkC (.slice none 0 0) b) 0 true)):=⟨_,rfl⟩
 have hS1:Same H H1:=hH1 ▸ (Same.refl hw).add _
 have hl1:H.len < H1.len:=by rw [hH1,len_add];omega
 have m1:H1.mine H.len=some (bkC (.slice none 0 0) b,0):=by rw [hH1];exact mine_add_eq rfl hlim
 have q18:H1.rdn H.len 0 18=some (bkV (.slice none 0 0) b):=by rw [hH1];exact bk_r18 rfl
 have hHs:=hH1.symm
 have e1:gset (bkC (.slice none 0 0) b) 2 (.int .u8 0)=some (bkC (.slice none 0 0) b):=by rw [bk_s2];obtain ⟨_,_,_,_,_,_,_⟩:=b;simp only at hx;rw [hx]
 have e2:gset (bkC (.slice none 0 0) b) 17 (.slice none 0 0)=some (bkC (.slice none 0 0) b):=bk_s17 rfl
 have e3:H1.put H.len (.cells (bkC (.slice none 0 0) b) 0 true)=H1:=put_self (mine_obj m1).2
 clear hH1
 repeat' (first|refine zz9 @g39.eq_1 @hf @bk_list @hHs @m1 @e1 @e2 @e3 @q18 ?_|(refine zh (fun hc=>?_) (fun hc=>?_)<;>try simp only [yL] at hc))
 have hbR:BkR H1 (.slice none 0 0) b:=⟨by rw [ht];exact RB.nil,.inl rfl⟩
 refine zc0 (bchk_ok hS1.wf hbR k) fun r2 H2 hq=>?_
 obtain ⟨rfl,hS2⟩:=hq
 have hS02:=hS1.trans hS2
 have hw2:=hS2.wf
 have hT2:=hT.same_ hw hS02
 have hsl:=hT2.isSl
 have c1:=ib_ok hT2 (.inr h0) hn
 have z0:decide (0≤(-1:Int))=false:=rfl
 have hpc:1≤pcs T∧pcs T≤240∧(pcs T - 1) * 112 < T.length∧T.length≤pcs T * 112:=by unfold pcs;omega
 have e4:((T.length:Int)+112 - 1) / 112=(pcs T:Nat):=by unfold pcs;omega
 have d4:=dv64 (e:=none) (a:=(T.length:Int)+112 - 1) (b:=112) (by omega) (by omega) (by omega)
 rw [e4] at d4
 have e5:max (1:Int) (pcs T:Nat)=(pcs T:Nat):=by omega
 have d5:decide (241 < ((pcs T:Nat):Int))=false:=decide_eq_false (by omega)
 repeat' (first|refine zz8 @g39.eq_1 @RK hsl.len @d4 @e5 @d5 @c1 @z0 ?_|(refine zh (fun hc=>?_) (fun hc=>?_)<;>try simp only [yL] at hc))
 have q2:H2.rdn H.len 0 18=some (bkV (.slice none 0 0) b):=(hS2.rdn hl1).trans q18
 have hl2:H.len < H2.len:=Nat.lt_of_lt_of_le hl1 hS2.len
 generalize hN:pcs T=n at *
 refine GW_loop (fun k fr H3=>∃ (i:Nat) (v:Value) (L:List VB),k=n - i∧i≤n∧fr.get 1=some (tv)∧fr.get 2=some (.pointer (some ⟨H.len,0,none⟩))∧fr.get 7=some (.int .i64 n)∧fr.get 8=some (v)∧fr.get 29=some (.int .i64 n)∧fr.get 30=some (.int .i64 i)∧BO H2 H3 v L∧L.map (·.2)=(splF b T).take i) ?_ n ?_
 case refine_2=>
  refine ⟨0,.slice none 0 0,[],rfl,by omega,?_⟩
  simp only [↓yG,Nat.reduceEqDiff,↓reduceIte,Int.natCast_add,Int.cast_ofNat_Int,Int.natCast_zero,true_and,and_true,Option.some.injEq,Value.int.injEq]
  exact ⟨BO.nil (Same.refl hw2),rfl⟩
 rintro k' fr H3 ⟨i,v,L,rfl,hi,f1,f2,f7,f8,f29,f30,hB,hL⟩ J hJ
 have hS3:=hB.own.same
 have hw3:=hS3.wf
 have hlim3:=hw3.1
 have hLl:L.length=i:=by
  have:=congrArg List.length hL
  rw [List.length_map,List.length_take,splF_len,hN] at this
  omega
 by_cases hi1:i < n
 ·have p3:H3.rdn H.len 0 18=some (bkV (.slice none 0 0) b):=(hS3.rdn hl2).trans q2
  obtain ⟨Z,hZ⟩:∃ Z:List Value,Z=[.int .i64 0,.int .i64 0,.int .u8 0,.int .u8 0,.int .i64 0,.int .i64 0,.int .i64 0,.int .i64 0,.bool false,.int .i64 0,.int .i64 0,.int .i64 0,.int .i64 0,.bool false,.int .i64 0,.int .u8 0,.bool false,.slice none 0 0]:=⟨_,rfl⟩
  have st0:=bk_set (v:=.slice none 0 0) (b:=b) (cs:=Z) (by rw [hZ];rfl) rfl
  rw [hZ] at st0
  have hyt:(splX b T i).t=(T.drop (i * 112)).take 112:=rfl
  have hyx:∀ w,bkC w {b with x:=if i+1=n then 255 else i}=bkC w (splX b T i):=fun w=>by rw [splX,hN];rfl
  have hsn:=splF_succ b T (i:=i) (by omega)
  generalize splX b T i=y at *
  obtain ⟨H4,hH4⟩:∃ H4,H4=(H3.add (some (.cells Z 0 true))).put H3.len (.cells (bkC (.slice none 0 0) y) 0 true):=⟨_,rfl⟩
  have hS34:Same H3 H4:=hH4 ▸ (Same.refl hw3).new _ _
  have m4:H4.mine H3.len=some (bkC (.slice none 0 0) y,0):=by rw [hH4,mine_put_same (by rw [lim_add];exact hlim3)]
  have hHs4:=hH4.symm
  have hl4:H3.len < H4.len:=by rw [hH4];simp only [len_put,len_add];omega
  rw [hZ] at hHs4
  clear hH4
  have hw4:=hS34.wf
  have hS24:=hS3.trans hS34
  have hT4:=hT2.same_ hw2 hS24
  obtain ⟨cv,s1,r1⟩:=hT4.sub (a:=(i:Int) * 112) (b:=min (T.length:Int) (((i:Int)+1) * 112)) (m:=y.t) (by omega) (by
   have:i * 112≤(n - 1) * 112:=Nat.mul_le_mul_right 112 (by omega)
   omega) (by omega) (by
   rw [hyt,show ((i:Int) * 112).toNat=i * 112 by omega,show (min (T.length:Int) (((i:Int)+1) * 112)).toNat - i * 112=min (T.length - i * 112) 112 by omega]
   rw [← List.length_drop,Nat.min_comm]
   exact (List.take_eq_take_iff.2 (by simp)))
  have hcl:y.t≠[]:=by
   intro e
   have:=congrArg List.length e
   have h2:i * 112≤(n - 1) * 112:=Nat.mul_le_mul_right 112 (by omega)
   simp only [hyt,List.length_take,List.length_drop,List.length_nil] at this
   omega
  have hyl:y.t.length≤112:=by rw [hyt];simp only [List.length_take];omega
  have sa:gset (bkC (.slice none 0 0) b) 2 (.int .u8 (i:Int))=some (bkC (.slice none 0 0) {b with x:=i}):=bk_s2
  by_cases hlast:i+1=n
  case' pos=>
   have dL:decide ((i:Int)=(n:Int) - 1)=true:=decide_eq_true (by omega)
   rw [if_pos hlast] at hyx
   have sb:gset (bkC (.slice none 0 0) {b with x:=(i:Int)}) 2 (.int .u8 255)=some (bkC (.slice none 0 0) y):=by rw [bk_s2,← hyx]
  case' neg=>
   have dL:decide ((i:Int)=(n:Int) - 1)=false:=decide_eq_false (by omega)
   rw [if_neg hlast] at hyx
   have sb:=hyx (.slice none 0 0)
  all_goals
   repeat' (first|(exfalso;omega)|refine zz17 @g39.eq_1 @RK @f1 @f2 @f7 @f8 @f29 @f30 @p3 @st0 @sa @sb @bk_len @dL @hHs4 hsl.len @s1 ?_|(refine zh (fun hc=>?_) (fun hc=>?_)<;>try simp only [yL] at hc))
   refine zc0 (bcl_ok hw4 r1 hcl (by omega)) fun r7 H7 hq=>?_
   have hS47:=hq.same
   have m7:=hS47.mine hl4
   rw [m4] at m7
   have hl7:=hS47.len
   have hfl:=BkR.flat (b:=y) ⟨hq.rb,.inr hcl⟩
   obtain ⟨H8,hH8⟩:∃ H8,H8=H7.put H3.len (.cells (bkC r7 y) 0 true):=⟨_,rfl⟩
   have hS38:Same H3 H8:=by rw [hH8];exact (hS34.trans hS47).put (Nat.le_refl _) (by omega) _
   have p8:H8.rdn H3.len 0 18=some (bkV r7 y):=by rw [hH8];exact bk_p18
   have hOr:OS 1 257 H2 H8 r7 y.t.length (u8s y.t):=by
    rw [hH8]
    have h23:=hS3.len
    exact (hq.weaken hS24).but ((But.refl (S:=fun j=>j=H3.len) hS47.wf).put rfl (by omega) _) (fun j hj e=>by omega) fun a ha e=>by have:=(hq.ids ha).1;omega
   have hHs8:=hH8.symm
   clear hH8
   have s7:=bk_s17 (v:=.slice none 0 0) (b:=y) hfl
   have hfi:=bk_fillS (v:=r7) (b:=y) hfl
   obtain ⟨v',H9,e9,hB9,_⟩:=(hB.later hS38).snoc hOr (by omega)
   repeat' (first|refine zz9 @g39.eq_1 @f8 @f30 @m7 @s7 @hHs8 @p8 @hfi @e9 ?_|(refine zh (fun hc=>?_) (fun hc=>?_)<;>try simp only [yL] at hc))
   refine hJ _ _ ⟨n - (i+1),by omega,i+1,v',L ++ [(r7,y)],rfl,by omega,?_⟩
   simp only [↓yG,Nat.reduceEqDiff,↓reduceIte,Int.natCast_add,Int.cast_ofNat_Int,Int.natCast_zero,true_and,and_true,Option.some.injEq,Value.int.injEq,f1,f2,f7,f29]
   exact ⟨hB9,by rw [List.map_append,hL,hsn];rfl⟩
 ·obtain rfl:i=n:=by omega
  repeat' (first|(exfalso;omega)|refine zz7 @g39.eq_1 @f1 @f2 @f7 @f8 @f29 @f30 ?_|(refine zh (fun hc=>?_) (fun hc=>?_)<;>try simp only [yL] at hc))
  rw [List.take_of_length_le (by rw [splF_len,hN];omega)] at hL
  exact hPost _ _ ⟨v,L,rfl,hB.weaken hS02,hL⟩
end Go.Gh
end
section
namespace Go.Gh
set_option linter.unusedSimpArgs false
set_option linter.unusedVariables false
set_option maxHeartbeats 4000000
open Go.RowKit
set_option maxRecDepth 4000
theorem BlR.rowN {H:GHeap} {v:Value} {L:List VB} (h:BlR H v L) {k:Nat} (hk:k < L.length):H.rdn (blk v) (ofs v+k * 18) 18=some (bkV L[k]!.1 L[k]!.2):=GRd.rowN (f:=bkx) h.rd.rd bkx_len (by decide) hk
theorem bmem {α:Type} [Inhabited α] {L:List α} {k:Nat} (hk:k < L.length):L[k]! ∈ L:=by rw [getElem!_pos L k hk];exact List.getElem_mem _
def blsB (L:List VB):List UInt8:=L.flatMap fun x=>bkB x.2
theorem blsB_take {L:List VB} {j:Nat} (h:j < L.length):blsB (L.take (j+1))=blsB (L.take j) ++ bkB L[j]!.2:=by
 rw [List.take_succ_eq_append_getElem h,← getElem!_pos L j h]
 simp [blsB]
theorem blsB_len {L:List VB} (h:∀ x ∈ L,BkOk x.2):(blsB L).length=L.length * 128:=by
 induction L with
 |nil=>rfl
 |cons x L ih=>
  have h1:=bkB_len (h x (by simp))
  have h2:=ih fun y hy=>h y (by simp [hy])
  simp only [blsB,List.flatMap_cons,List.length_append,List.length_cons] at h2 ⊢
  omega
theorem wr_ok {H:GHeap} (hw:H.wf) {h:Hd} (k:HdOk h) {v:Value} {L:List VB} (hL:BlR H v L) (hk:∀ x ∈ L,BkOk x.2∧x.2.t≠[]) (hn:h.bl=L.length):
 ∃ r H',gev G 40 [hdV h,v] H=some (r,H')∧∃ w,r=.tuple #[w,.int .i64 0]∧OS 1 257 H H' w (hdB h ++ blsB L).length (u8s (hdB h ++ blsB L)):=by
 refine gev_GW (f:=40) rfl fun Post hPost=>?_
 have hlim:=hw.1
 simp only [frameOf,Nat.reduceAdd]
 obtain ⟨H1,hH1⟩:∃ H1,H1=H.add (some (.cells (hdC h) 0 true)):=⟨_,rfl⟩
 have hS1:Same H H1:=hH1 ▸ (Same.refl hw).add _
 have hl1:H.len < H1.len:=by rw [hH1,len_add];omega
 have q3:H1.rd H.len 3=some (.int .i64 h.bl):=by rw [hH1];exact rd_add_eq rfl
 have q17:H1.rdn H.len 0 17=some (hdV h):=by rw [hH1];exact hd_r17 rfl
 have hHs:=hH1.symm
 clear hH1
 repeat' (first|refine zz4 @g40.eq_1 @RH @hHs @q17 ?_|(refine zh (fun hc=>?_) (fun hc=>?_)<;>try simp only [yL] at hc))
 refine zc0 (puth_ok hS1.wf k) fun r2 H2 hq=>?_
 obtain ⟨w2,rfl,hO2⟩:=hq
 have hS12:=hO2.same
 have hS2:=hS1.trans hS12
 have hL2:=hL.later hw hS2
 have hsl:=hL2.rd.rd.isSl
 have p3:=(hS12.rd hl1).trans q3
 have d0:decide (¬ (L.length:Int)=h.bl)=false:=decide_eq_false fun e=>e hn.symm
 have hLl:(L.length:Int)≤99999:=by have:=k.bl;omega
 have z0:decide (¬ True)=false:=rfl
 repeat' (first|refine zz5 @g40.eq_1 @z0 hsl.len @p3 @d0 ?_|(refine zh (fun hc=>?_) (fun hc=>?_)<;>try simp only [yL] at hc))
 have hw2:=hS2.wf
 have hd1:=hdB_len k
 refine GW_loop (fun k fr H3=>∃ (j:Nat) (w:Value),k=L.length - j∧j≤L.length∧fr.get 6=some (w)∧fr.get 25=some (v)∧fr.get 26=some (.int .i64 L.length)∧fr.get 27=some (.int .i64 j)∧OS 1 257 H1 H3 w (hdB h ++ blsB (L.take j)).length (u8s (hdB h ++ blsB (L.take j)))) ?_ L.length ?_
 case refine_2=>
  refine ⟨0,w2,by omega,by omega,?_⟩
  simp only [↓yG,Nat.reduceEqDiff,↓reduceIte,Int.natCast_add,Int.cast_ofNat_Int,Int.natCast_zero,true_and,and_true,Option.some.injEq,Value.int.injEq]
  simpa [blsB] using hO2
 rintro k' fr H3 ⟨j,w,rfl,hj,f6,f25,f26,f27,hO⟩ J hJ
 have hw3:=hO.same.wf
 have hlim3:=hw3.1
 by_cases hj1:j < L.length
 ·have hL3:=(hL.later hw hS1).later hS1.wf hO.same
  have e1:=hL3.rowN hj1
  have hx:=hk _ (bmem hj1)
  have hxr:=hL3.rows _ (bmem hj1)
  have htk:=blsB_take hj1
  have hbl:=blsB_len (L:=L.take j) fun y hy=>(hk y (List.mem_of_mem_take hy)).1
  rw [List.length_take] at hbl
  generalize L[j]! =x at *
  have hfl:=hxr.rd |> fun _=>BkR.flat (b:=x.2) ⟨hxr,.inr hx.2⟩
  obtain ⟨Z,hZ⟩:∃ Z:List Value,Z=[.int .i64 0,.int .i64 0,.int .u8 0,.int .u8 0,.int .i64 0,.int .i64 0,.int .i64 0,.int .i64 0,.bool false,.int .i64 0,.int .i64 0,.int .i64 0,.int .i64 0,.bool false,.int .i64 0,.int .u8 0,.bool false,.slice none 0 0]:=⟨_,rfl⟩
  have st0:=bk_set (v:=x.1) (b:=x.2) (cs:=Z) (by rw [hZ];rfl) hfl
  rw [hZ] at st0
  have hS34:Same H3 ((H3.add (some (.cells Z 0 true))).put H3.len (.cells (bkC x.1 x.2) 0 true)):=(Same.refl hw3).new _ _
  rw [hZ] at hS34
  repeat' (first|(exfalso;omega)|refine zz9 @g40.eq_1 @f6 @f25 @f26 @f27 hsl.ix @e1 @st0 @bk_p18 ?_|(refine zh (fun hc=>?_) (fun hc=>?_)<;>try simp only [yL] at hc))
  refine zc0 (bput_ok hS34.wf ⟨hxr.same_ hw3 hS34,.inr hx.2⟩ hx.1) fun r5 H5 hq=>?_
  obtain ⟨w5,rfl,hO5⟩:=hq
  have hS35:=hS34.trans hO5.same
  have hw5:=hS35.wf
  obtain ⟨v',H6,e6,hO6,_⟩:=(hO.later hS35).appN (by decide) (by decide) hO5.arg (b:=1) (by simp only [List.length_append];omega) (by simp only [List.length_append];omega)
  repeat' (first|refine zz7 @g40.eq_1 @f6 @f25 @f26 @f27 @z0 @e6 ?_|(refine zh (fun hc=>?_) (fun hc=>?_)<;>try simp only [yL] at hc))
  refine hJ _ _ ⟨L.length - (j+1),by omega,j+1,v',rfl,by omega,?_⟩
  simp only [↓yG,Nat.reduceEqDiff,↓reduceIte,Int.natCast_add,Int.cast_ofNat_Int,Int.natCast_zero,true_and,and_true,Option.some.injEq,Value.int.injEq,f25,f26]
  rw [← u8s_append,List.append_assoc,← htk] at hO6
  have hln:(hdB h ++ blsB (L.take j)).length+128=(hdB h ++ blsB (L.take (j+1))).length:=by
   rw [htk,List.length_append,List.length_append,List.length_append,bkB_len hx.1];omega
  rw [hln] at hO6
  exact hO6
 ·obtain rfl:j=L.length:=by omega
  rw [List.take_length] at hO
  repeat' (first|(exfalso;omega)|refine zz5 @g40.eq_1 @f6 @f25 @f26 @f27 ?_|(refine zh (fun hc=>?_) (fun hc=>?_)<;>try simp only [yL] at hc))
  exact hPost _ _ ⟨_,rfl,hO.weaken hS1⟩
end Go.Gh
end
section
namespace Go.Gh
set_option linter.unusedSimpArgs false
set_option linter.unusedVariables false
set_option maxHeartbeats 4000000
open Go.RowKit
set_option maxRecDepth 4000
theorem OS.put0 {s u n:Nat} {H0 H1 H:GHeap} {v:Value} {xs:List Value} (h:OS s u H1 H v n xs) (hs:Same H0 H1) {j:Nat} (h0:H0.len≤j) (h1:j < H1.len) (o:GObj):OS s u H0 (H.put j o) v n xs:=
 (h.weaken hs).but ((But.refl (S:=fun i=>i=j) h.same.wf).put rfl (Nat.lt_of_lt_of_le h1 h.same.len) _) (fun i hi e=>by omega) fun a ha e=>by have:=(h.ids ha).1;omega
theorem BO.put0 {H0 H1 H:GHeap} {v:Value} {L:List VB} (h:BO H1 H v L) (hs:Same H0 H1) {j:Nat} (h0:H0.len≤j) (h1:j < H1.len) (o:GObj):BO H0 (H.put j o) v L:=⟨h.own.put0 hs h0 h1 o,fun x hx=>(h.rows x hx).put0 hs h0 h1 o⟩
def fmB (L:List Bk):List UInt8:=L.flatMap bkB
theorem fmB_len {L:List Bk} (h:∀ b ∈ L,BkOk b):(fmB L).length=L.length * 128:=by
 induction L with
 |nil=>rfl
 |cons x L ih=>
  have h1:=bkB_len (h x (by simp))
  have h2:=ih fun y hy=>h y (by simp [hy])
  simp only [fmB,List.flatMap_cons,List.length_append,List.length_cons] at h2 ⊢
  omega
theorem fmB_at:∀ {L:List Bk} {j:Nat},(∀ b ∈ L,BkOk b)→j < L.length→((fmB L).drop (j * 128)).take 128=bkB L[j]!
 |[],j,_,h=>by simp at h
 |x :: L,0,hk,_=>by
  have h1:=bkB_len (hk x (by simp))
  have e:fmB (x :: L)=bkB x ++ fmB L:=by simp [fmB]
  rw [e,Nat.zero_mul,List.drop_zero,← h1,List.take_left];rfl
 |x :: L,j+1,hk,h=>by
  have h1:=bkB_len (hk x (by simp))
  have ih:=fmB_at (L:=L) (j:=j) (fun b hb=>hk b (by simp [hb])) (by simpa using h)
  have e:fmB (x :: L)=bkB x ++ fmB L:=by simp [fmB]
  rw [e,show (j+1) * 128=(bkB x).length+j * 128 by omega,← List.drop_drop,List.drop_left,ih]
  simp
theorem read_ok {H:GHeap} (hw:H.wf) {p:Value} {h:Hd} {L:List Bk} (k:HdOk h) (hk:∀ b ∈ L,BkOk b∧b.t≠[]) (hn:h.bl=L.length) (hp:RB H p (hdB h ++ fmB L)):
 ∃ r H',gev G 41 [p] H=some (r,H')∧∃ v LL,r=.tuple #[hdV h,v,.int .i64 0,.int .i64 0]∧LL.map (·.2)=L∧BO H H' v LL:=by
 refine gev_GW (f:=41) rfl fun Post hPost=>?_
 have hlim:=hw.1
 have hl1:=hdB_len k
 have hl2:=fmB_len fun b hb=>(hk b hb).1
 have hLl:L.length≤99999:=by have:=k.bl;omega
 have hl3:(hdB h ++ fmB L).length=1024+L.length * 128:=by rw [List.length_append];omega
 simp only [frameOf,Nat.reduceAdd]
 obtain ⟨Z,hZ⟩:∃ Z:List Value,Z=[.int .u8 0,.string ⟨#[]⟩,.string ⟨#[]⟩,.int .i64 0,.int .i64 0,.int .i64 0,.int .i64 0,.int .i64 0,.int .i64 0,.bool false,.int .i64 0,.int .i64 0,.int .i64 0,.int .i64 0,.bool false,.int .i64 0,.int .i64 0]:=⟨_,rfl⟩
 have hZl:Z.length=17:=by rw [hZ];rfl
 obtain ⟨H1,hH1⟩:∃ H1,H1=H.add (some (.cells Z 0 true)):=⟨_,rfl⟩
 have hS1:Same H H1:=hH1 ▸ (Same.refl hw).add _
 have m1:H1.mine H.len=some (Z,0):=by rw [hH1];exact mine_add_eq rfl hlim
 have hl:H.len < H1.len:=by rw [hH1,len_add];omega
 have hw1:=hS1.wf
 have hHs:=hH1.symm
 rw [hZ] at hHs
 clear hH1
 have hp1:=hp.same_ hw hS1
 have hsl:=hp1.isSl
 have d0:decide (((hdB h ++ fmB L).length:Int) < 1024)=false:=decide_eq_false (by omega)
 obtain ⟨ph,s1,r1⟩:=hp1.preM (b:=1024) (m:=hdB h) (by omega) (by omega) (by rw [show (1024:Int).toNat=(hdB h).length by omega,List.take_left])
 repeat' (first|refine zz5 @g41.eq_1 @hHs hsl.len @d0 @s1 ?_|(refine zh (fun hc=>?_) (fun hc=>?_)<;>try simp only [yL] at hc))
 refine zc0 (geth_ok hw1 k r1) fun r2 H2 hq=>?_
 obtain ⟨rfl,hS2⟩:=hq
 have hw2:=hS2.wf
 have hlim2:=hw2.1
 obtain ⟨H3,hH3⟩:∃ H3,H3=(H2.add (some (.cells Z 0 true))).put H2.len (.cells (hdC h) 0 true):=⟨_,rfl⟩
 have hS23:Same H2 H3:=hH3 ▸ (Same.refl hw2).new _ _
 have hS3:=hS2.trans hS23
 have hw3:=hS3.wf
 have b3:H3.rd H2.len 3=some (.int .i64 h.bl):=by rw [hH3,rd_put_same];rfl
 have b17:H3.rdn H2.len 0 17=some (hdV h):=by rw [hH3,hd_p17]
 have hl23:H2.len < H3.len:=by rw [hH3];simp only [len_put,len_add];omega
 have hHs3:=hH3.symm
 rw [hZ] at hHs3
 clear hH3
 have st0:=hd_set (h:=h) hZl
 rw [hZ] at st0
 obtain ⟨pb,s2,r2⟩:=(hp1.same_ hw1 hS3).sufM (a:=1024) (m:=fmB L) (by omega) (by omega) (by rw [show (1024:Int).toNat=(hdB h).length by omega,List.drop_left])
 have hsl2:=r2.isSl
 have d2:decide (¬ (((fmB L).length:Int) % 128=0))=false:=decide_eq_false (by omega)
 have d3:decide (¬ (((fmB L).length:Int) / 128=h.bl))=false:=decide_eq_false (by omega)
 have z0:decide (¬ True)=false:=rfl
 repeat' (first|refine zz11 @g41.eq_1 @z0 @hHs3 @st0 @b3 @s2 hsl2.len @rm64 @dv64 @d2 @d3 ?_|(refine zh (fun hc=>?_) (fun hc=>?_)<;>try simp only [yL] at hc))
 refine GW_loop (fun k fr H4=>∃ (j:Nat) (v:Value) (LL:List VB),k=L.length - j∧j≤L.length∧fr.get 0=some (pb)∧fr.get 2=some (.pointer (some ⟨H.len,0,none⟩))∧fr.get 6=some (.pointer (some ⟨H2.len,0,none⟩))∧fr.get 8=some (v)∧fr.get 41=some (.int .i64 L.length)∧fr.get 42=some (.int .i64 j)∧BO H3 H4 v LL∧LL.map (·.2)=L.take j) ?_ L.length ?_
 case refine_2=>
  refine ⟨0,.slice none 0 0,[],by omega,by omega,?_⟩
  simp only [↓yG,Nat.reduceEqDiff,↓reduceIte,Int.natCast_add,Int.cast_ofNat_Int,Int.natCast_zero,true_and,and_true,Option.some.injEq,Value.int.injEq,hn]
  exact ⟨BO.nil (Same.refl hw3),rfl⟩
 rintro k' fr H4 ⟨j,v,LL,rfl,hj,f0,f2,f6,f8,f41,f42,hB,hLL⟩ J hJ
 have hS4:=hB.own.same
 have hw4:=hS4.wf
 have hlim4:=hw4.1
 have hLLl:LL.length=j:=by
  have:=congrArg List.length hLL
  rw [List.length_map,List.length_take] at this
  omega
 by_cases hj1:j < L.length
 ·have hx:=hk _ (bmem hj1)
  have hat:=fmB_at (fun b hb=>(hk b hb).1) hj1
  have htk:L.take (j+1)=L.take j ++ [L[j]!]:=by rw [List.take_succ_eq_append_getElem hj1,← getElem!_pos L j hj1]
  generalize L[j]! =x at *
  obtain ⟨pj,s5,r5⟩:=(r2.same_ hw3 hS4).sub (a:=(j:Int) * 128) (b:=((j:Int)+1) * 128) (m:=bkB x) (by omega) (by omega) (by omega) (by
   rw [show ((j:Int) * 128).toNat=j * 128 by omega,show (((j:Int)+1) * 128).toNat - j * 128=128 by omega];exact hat)
  repeat' (first|(exfalso;omega)|refine zz8 @g41.eq_1 @f0 @f2 @f6 @f8 @f41 @f42 @s5 ?_|(refine zh (fun hc=>?_) (fun hc=>?_)<;>try simp only [yL] at hc))
  refine zc0 (bget_ok hw4 hx.1 hx.2 r5) fun r6 H6 hq=>?_
  obtain ⟨w,rfl,hOw⟩:=hq
  have hw6:=hOw.same.wf
  have hlim6:=hw6.1
  have hfl:=BkR.flat (b:=x) ⟨hOw.rb,.inr hx.2⟩
  obtain ⟨Y,hY⟩:∃ Y:List Value,Y=[.int .i64 0,.int .i64 0,.int .u8 0,.int .u8 0,.int .i64 0,.int .i64 0,.int .i64 0,.int .i64 0,.bool false,.int .i64 0,.int .i64 0,.int .i64 0,.int .i64 0,.bool false,.int .i64 0,.int .u8 0,.bool false,.slice none 0 0]:=⟨_,rfl⟩
  have st1:=bk_set (v:=w) (b:=x) (cs:=Y) (by rw [hY];rfl) hfl
  rw [hY] at st1
  have hfi:=bk_fillS (v:=w) (b:=x) hfl
  have hS67:Same H6 ((H6.add (some (.cells Y 0 true))).put H6.len (.cells (bkC w x) 0 true)):=(Same.refl hw6).new _ _
  rw [hY] at hS67
  obtain ⟨v',H8,e8,hB8,_⟩:=(hB.later (hOw.same.trans hS67)).snoc ((hOw.weaken hS4).later hS67) (by omega)
  simp only [len_put,len_add] at e8
  repeat' (first|refine zz12 @g41.eq_1 @f0 @f2 @f6 @f8 @f41 @f42 @z0 @st1 @bk_p18 @hfi @e8 ?_|(refine zh (fun hc=>?_) (fun hc=>?_)<;>try simp only [yL] at hc))
  refine hJ _ _ ⟨L.length - (j+1),by omega,j+1,v',LL ++ [(w,x)],rfl,by omega,?_⟩
  simp only [↓yG,Nat.reduceEqDiff,↓reduceIte,Int.natCast_add,Int.cast_ofNat_Int,Int.natCast_zero,true_and,and_true,Option.some.injEq,Value.int.injEq,f0,f2,f6,f41]
  exact ⟨hB8,by rw [List.map_append,hLL,htk];rfl⟩
 ·obtain rfl:j=L.length:=by omega
  rw [List.take_length] at hLL
  have hS14:=hS3.trans hS4
  have b4:=(hS4.rdn hl23).trans b17
  have m4:=hS14.mine hl
  rw [m1] at m4
  have hll:=hS14.len
  have st4:=hd_set (h:=h) hZl
  repeat' (first|(exfalso;omega)|refine zz12 @g41.eq_1 @f0 @f2 @f6 @f8 @f41 @f42 @b4 @m4 @st4 @hZl @hd_p17 ?_|(refine zh (fun hc=>?_) (fun hc=>?_)<;>try simp only [yL] at hc))
  exact hPost _ _ ⟨v,LL,rfl,hLL,(hB.weaken hS3).put0 hS1 (Nat.le_refl _) hl _⟩
end Go.Gh
end
section
namespace Go.Gh
set_option linter.unusedSimpArgs false
set_option linter.unusedVariables false
set_option maxHeartbeats 4000000
open Go.RowKit
set_option maxRecDepth 4000
theorem gb_lb {x:Lb}:gbin .eql (some (.parts [(0,none,.int),(1,none,.int),(2,none,.int),(3,none,.int),(4,none,.bool)])) (lbV x) (lbV x)=some (.bool true):=by
 have h0:∀ n,geqIn (n+1) (.parts [(0,none,.int),(1,none,.int),(2,none,.int),(3,none,.int),(4,none,.bool)]) (lbV x) (lbV x)=match geqIn n .int (.int .i64 x.h) (.int .i64 x.h) with
  |some true=>(match geqIn n .int (.int .i64 x.m) (.int .i64 x.m) with
   |some true=>(match geqIn n .int (.int .i64 x.s) (.int .i64 x.s) with
    |some true=>(match geqIn n .int (.int .i64 x.f) (.int .i64 x.f) with
     |some true=>(match geqIn n .bool (.bool false) (.bool false) with
      |some true=>some true
      |z=>z)
     |z=>z)
    |z=>z)
   |z=>z)
  |z=>z:=fun n=>rfl
 have:=h0 11
 simp only [geq_int,geq_bool,beq_self_eq_true] at this
 simp only [gbin,lbV,geq] at this ⊢
 rw [this];rfl
structure Al (a b:Bk):Prop where
 n:a.n=b.n
 i:a.i=b.i
 o:a.o=b.o
 r:a.r=b.r
 al:a.al=b.al
theorem alike_ok' {H:GHeap} (hw:H.wf) {v w:Value} {a b:Bk} (hv:flatV v=true) (hw':flatV w=true) (h:Al a b):∃ r H',gev G 152 [bkV v a,bkV w b] H=some (r,H')∧(r=.bool true∧Same H H'):=by
 refine gev_GW (f:=152) rfl fun Post hPost=>?_
 have hlim:=hw.1
 obtain ⟨n,x,i,o,r,al,t⟩:=a
 obtain ⟨n',x',i',o',r',al',t'⟩:=b
 obtain ⟨h1,h2,h3,h4,h5⟩:=h
 simp only at h1 h2 h3 h4 h5
 subst h1 h2 h3 h4 h5
 have hf1:=bk_all (b:=⟨n,x,i,o,r,al,t⟩) hv
 have hf2:=bk_all (b:=⟨n,x',i,o,r,al,t'⟩) hw'
 simp only [frameOf,Nat.reduceAdd]
 obtain ⟨H1,hH1⟩:∃ H1,H1=(H.add (some (.cells (bkC v ⟨n,x,i,o,r,al,t⟩) 0 true))).add (some (.cells (bkC w ⟨n,x',i,o,r,al,t'⟩) 0 true)):=⟨_,rfl⟩
 have hS1:Same H H1:=hH1 ▸ ((Same.refl hw).add _).add _
 have q1:∀ c,H1.rd H.len c=(bkC v ⟨n,x,i,o,r,al,t⟩)[c]?:=fun c=>by rw [hH1,rd_add_ne (by rw [len_add];omega)];exact rd_add_eq rfl
 have q2:∀ c,H1.rd (H.len+1) c=(bkC w ⟨n,x',i,o,r,al,t'⟩)[c]?:=fun c=>by rw [hH1];exact rd_add_eq (by rw [len_add])
 have q3:H1.rdn H.len 4 5=some (lbV i):=by rw [hH1,rdn_add_ne (by rw [len_add];omega)];exact bk_r4 rfl
 have q4:H1.rdn H.len 9 5=some (lbV o):=by rw [hH1,rdn_add_ne (by rw [len_add];omega)];exact bk_r9 rfl
 have q5:H1.rdn (H.len+1) 4 5=some (lbV i):=by rw [hH1];exact bk_r4 (by rw [len_add])
 have q6:H1.rdn (H.len+1) 9 5=some (lbV o):=by rw [hH1];exact bk_r9 (by rw [len_add])
 have hHs:=hH1.symm
 clear hH1
 have z1:∀ a:Int,decide (a=a)=true:=fun a=>decide_eq_true rfl
 have z2:gbin .eql (some .bool) (.bool false) (.bool false)=some (.bool true):=rfl
 repeat' (first|refine zz14 @g152.eq_1 @hf1 @hf2 @RBk @hHs @q1 @q2 @q3 @q4 @q5 @q6 @gb_lb @z1 @z2 ?_|(refine zh (fun hc=>?_) (fun hc=>?_)<;>try simp only [yL] at hc))
 exact hPost _ _ ⟨rfl,hS1⟩
abbrev zBk:List Value:=[.int .i64 0,.int .i64 0,.int .u8 0,.int .u8 0,.int .i64 0,.int .i64 0,.int .i64 0,.int .i64 0,.bool false,.int .i64 0,.int .i64 0,.int .i64 0,.int .i64 0,.bool false,.int .i64 0,.int .u8 0,.bool false,.slice none 0 0]
structure SpX (b:Bk) (T:List UInt8) (j:Nat) (y:Bk):Prop where
 ok:BkOk y
 t:y.t=(T.drop (j * 112)).take 112
 ne:y.t≠[]
 x:y.x=if j+1=pcs T then 255 else (j:Int)
 al:Al y b
theorem spX_ok {b:Bk} (k:BkOk b) {T:List UInt8} (hl:T.length≤20000) (hn:∀ c ∈ T,c≠143) {j:Nat} (hj:j < pcs T):SpX b T j (splX b T j):=by
 have hp:(j+1) * 112≤pcs T * 112:=Nat.mul_le_mul_right 112 hj
 have hq:pcs T≤179∧pcs T * 112 < T.length+112:=by unfold pcs;omega
 refine ⟨⟨k.n,?_,k.i,k.o,k.r,k.al,by simp only [splX,List.length_take];omega,fun c hc=>hn c (List.mem_of_mem_drop (List.mem_of_mem_take hc))⟩,rfl,fun e=>?_,rfl,⟨rfl,rfl,rfl,rfl,rfl⟩⟩
 ·have hxx:(splX b T j).x=if j+1=pcs T then 255 else (j:Int):=rfl
  by_cases hh:j+1=pcs T
  ·rw [hxx,if_pos hh];omega
  ·rw [hxx,if_neg hh];omega
 ·have:=congrArg List.length e
  simp only [splX,List.length_take,List.length_drop,List.length_nil] at this
  omega
theorem spX_at {b:Bk} {T:List UInt8} {LL:List VB} (e:LL.map (·.2)=splF b T) {j:Nat} (hj:j < LL.length):LL[j]!.2=splX b T j:=by
 have h1:(LL.map (·.2))[j]? =some LL[j]!.2:=by rw [List.getElem?_map,List.getElem?_eq_getElem hj,getElem!_pos LL j hj];rfl
 have hl:LL.length=pcs T:=by have:=congrArg List.length e;rwa [List.length_map,splF_len] at this
 rw [e,splF,List.getElem?_map,List.getElem?_range (by omega)] at h1
 simpa using h1.symm
theorem join_ok' {H:GHeap} (hw:H.wf) {b:Bk} (k:BkOk b) {T:List UInt8} (h0:T≠[]) (hl:T.length≤20000) (hn:∀ c ∈ T,c≠143) {v:Value} {LL:List VB} (hL:BlR H v LL) (e:LL.map (·.2)=splF b T):
 ∃ r H',gev G 92 [v] H=some (r,H')∧∃ w,r=.tuple #[bkV (.slice none 0 0) {b with x:=255},w,.int .i64 0]∧OS 1 257 H H' w T.length (u8s T):=by
 refine gev_GW (f:=92) rfl fun Post hPost=>?_
 have hlim:=hw.1
 have hp:0 < T.length:=List.length_pos_iff.2 h0
 have hpc:1≤pcs T∧pcs T≤240:=by unfold pcs;omega
 have hLl:LL.length=pcs T:=by have:=congrArg List.length e;rwa [List.length_map,splF_len] at this
 have hx:∀ j,j < LL.length→SpX b T j LL[j]!.2:=fun j hj=>by rw [spX_at e hj];exact spX_ok k hl hn (by omega)
 have hsl:=hL.rd.rd.isSl
 simp only [frameOf,Nat.reduceAdd]
 obtain ⟨H1,hH1⟩:∃ H1,H1=H.add (some (.cells zBk 0 true)):=⟨_,rfl⟩
 have hS1:Same H H1:=hH1 ▸ (Same.refl hw).add _
 have m1:H1.mine H.len=some (zBk,0):=by rw [hH1];exact mine_add_eq rfl hlim
 have hl1:H.len < H1.len:=by rw [hH1,len_add];omega
 have hw1:=hS1.wf
 have hHs:=hH1.symm
 clear hH1
 have hL1:=hL.later hw hS1
 have d0:decide ((LL.length:Int)=0)=false:=decide_eq_false (by omega)
 have z0:decide (¬ True)=false:=rfl
 repeat' (first|refine zz4 @g92.eq_1 @hHs hsl.len @d0 ?_|(refine zh (fun hc=>?_) (fun hc=>?_)<;>try simp only [yL] at hc))
 refine GW_loop (fun k' fr H2=>∃ j:Nat,k'=LL.length - j∧j≤LL.length∧fr.get 0=some (v)∧fr.get 2=some (.pointer (some ⟨H.len,0,none⟩))∧fr.get 20=some (v)∧fr.get 21=some (.int .i64 LL.length)∧fr.get 22=some (.int .i64 j)∧Same H1 H2) ?_ LL.length ?_
 case refine_2=>
  refine ⟨0,by omega,by omega,?_⟩
  simp only [↓yG,Nat.reduceEqDiff,↓reduceIte,Int.natCast_add,Int.cast_ofNat_Int,Int.natCast_zero,true_and,and_true,Option.some.injEq,Value.int.injEq]
  exact Same.refl hw1
 rintro k' fr H2 ⟨j,rfl,hj,f0,f2,f20,f21,f22,hS2⟩ J hJ
 have hw2:=hS2.wf
 have hlim2:=hw2.1
 have hL2:=hL1.later hw1 hS2
 by_cases hj1:j < LL.length
 ·have e1:=hL2.rowN hj1
  have hr:=hL2.rows _ (bmem hj1)
  have hxj:=hx j hj1
  generalize LL[j]! =y at *
  have hfl:=BkR.flat (b:=y.2) ⟨hr,.inr hxj.ne⟩
  have st0:=bk_set (v:=y.1) (b:=y.2) (cs:=zBk) rfl hfl
  have hS23:Same H2 ((H2.add (some (.cells zBk 0 true))).put H2.len (.cells (bkC y.1 y.2) 0 true)):=(Same.refl hw2).new _ _
  repeat' (first|(exfalso;omega)|refine zz10 @g92.eq_1 @f0 @f2 @f20 @f21 @f22 hsl.ix @e1 @st0 @bk_p18 ?_|(refine zh (fun hc=>?_) (fun hc=>?_)<;>try simp only [yL] at hc))
  refine zc0 (bchk_ok hS23.wf ⟨hr.same_ hw2 hS23,.inr hxj.ne⟩ hxj.ok) fun r4 H4 hq=>?_
  obtain ⟨rfl,hS4⟩:=hq
  repeat' (first|refine zz6 @g92.eq_1 @f0 @f2 @f20 @f21 @f22 ?_|(refine zh (fun hc=>?_) (fun hc=>?_)<;>try simp only [yL] at hc))
  refine hJ _ _ ⟨LL.length - (j+1),by omega,j+1,rfl,by omega,?_⟩
  simp only [↓yG,Nat.reduceEqDiff,↓reduceIte,Int.natCast_add,Int.cast_ofNat_Int,Int.natCast_zero,true_and,and_true,Option.some.injEq,Value.int.injEq,f0,f2,f20,f21]
  exact hS2.trans (hS23.trans hS4)
 obtain rfl:j=LL.length:=by omega
 repeat' (first|(exfalso;omega)|refine zz7 @g92.eq_1 @f0 @f2 @f20 @f21 @f22 hsl.len ?_|(refine zh (fun hc=>?_) (fun hc=>?_)<;>try simp only [yL] at hc))
 have e00:=hL2.rowN (k:=0) (by omega)
 rw [Nat.zero_mul,Nat.add_zero] at e00
 have hx0:=hx 0 (by omega)
 have hr0:=hL2.rows _ (bmem (k:=0) (by omega))
 have hfl0:=BkR.flat (b:=LL[0]!.2) ⟨hr0,.inr hx0.ne⟩
 refine GW_loop (fun k' fr H3=>∃ j:Nat,k'=LL.length - j∧j≤LL.length∧fr.get 0=some (v)∧fr.get 2=some (.pointer (some ⟨H.len,0,none⟩))∧fr.get 8=some (.int .i64 (LL.length - 1))∧fr.get 36=some (v)∧fr.get 37=some (.int .i64 LL.length)∧fr.get 38=some (.int .i64 j)∧Same H2 H3) ?_ LL.length ?_
 case refine_2=>
  refine ⟨0,by omega,by omega,?_⟩
  simp only [↓yG,Nat.reduceEqDiff,↓reduceIte,Int.natCast_add,Int.cast_ofNat_Int,Int.natCast_zero,true_and,and_true,Option.some.injEq,Value.int.injEq,f0,f2]
  exact Same.refl hw2
 rintro k' fr H3 ⟨j,rfl,hj,f0,f2,f8,f36,f37,f38,hS3⟩ J hJ
 have hw3:=hS3.wf
 have hlim3:=hw3.1
 have hL3:=hL2.later hw2 hS3
 have hnil:blk v < H2.len:=hL2.rd.rd.lt (by omega)
 by_cases hj1:j < LL.length
 ·have e1:=hL3.rowN hj1
  have e0:=(hS3.rdn hnil).trans e00
  have hr:=hL3.rows _ (bmem hj1)
  have hxj:=hx j hj1
  generalize LL[j]! =y at *
  have hfl:=BkR.flat (b:=y.2) ⟨hr,.inr hxj.ne⟩
  have st0:=bk_set (v:=y.1) (b:=y.2) (cs:=zBk) rfl hfl
  obtain ⟨H4,hH4⟩:∃ H4,H4=(H3.add (some (.cells zBk 0 true))).put H3.len (.cells (bkC y.1 y.2) 0 true):=⟨_,rfl⟩
  have hS34:Same H3 H4:=hH4 ▸ (Same.refl hw3).new _ _
  have p4:H4.rdn H3.len 0 18=some (bkV y.1 y.2):=by rw [hH4,bk_p18]
  have p2:H4.rd H3.len 2=some (.int .u8 y.2.x):=by rw [hH4,rd_put_same];rfl
  have e04:=(hS34.rdn (Nat.lt_of_lt_of_le hnil hS3.len)).trans e0
  have hHs4:=hH4.symm
  clear hH4
  have hxo:=hxj.ok.x
  have hxx:=hxj.x
  have hal:Al y.2 LL[0]!.2:=⟨hxj.al.n.trans hx0.al.n.symm,hxj.al.i.trans hx0.al.i.symm,hxj.al.o.trans hx0.al.o.symm,hxj.al.r.trans hx0.al.r.symm,hxj.al.al.trans hx0.al.al.symm⟩
  by_cases hlast:j+1=pcs T
  case' pos=>
   have dL:decide ((j:Int)=(LL.length:Int) - 1)=true:=decide_eq_true (by omega)
   rw [if_pos hlast] at hxx
   have dX:decide (¬ y.2.x=255)=false:=decide_eq_false fun h=>h hxx
  case' neg=>
   have dL:decide ((j:Int)=(LL.length:Int) - 1)=false:=decide_eq_false (by omega)
   rw [if_neg hlast] at hxx
   have dX:decide (¬ y.2.x=(j:Int))=false:=decide_eq_false fun h=>h hxx
  all_goals
   repeat' (first|(exfalso;omega)|refine zz16 @g92.eq_1 @f0 @f2 @f8 @f36 @f37 @f38 hsl.ix @e1 @st0 @hHs4 @dL @p2 @dX @p4 @e04 ?_|(refine zh (fun hc=>?_) (fun hc=>?_)<;>try simp only [yL] at hc))
   refine zc0 (alike_ok' hS34.wf hfl hfl0 hal) fun r5 H5 hq=>?_
   obtain ⟨rfl,hS5⟩:=hq
   repeat' (first|refine zz7 @g92.eq_1 @f0 @f2 @f8 @f36 @f37 @f38 ?_|(refine zh (fun hc=>?_) (fun hc=>?_)<;>try simp only [yL] at hc))
   refine hJ _ _ ⟨LL.length - (j+1),by omega,j+1,rfl,by omega,?_⟩
   simp only [↓yG,Nat.reduceEqDiff,↓reduceIte,Int.natCast_add,Int.cast_ofNat_Int,Int.natCast_zero,true_and,and_true,Option.some.injEq,Value.int.injEq,f0,f2,f8,f36,f37]
   exact hS3.trans (hS34.trans hS5)
 obtain rfl:j=LL.length:=by omega
 repeat' (first|(exfalso;omega)|refine zz8 @g92.eq_1 @f0 @f2 @f8 @f36 @f37 @f38 hsl.len ?_|(refine zh (fun hc=>?_) (fun hc=>?_)<;>try simp only [yL] at hc))
 have hS13:=hS2.trans hS3
 have e03:=(hS3.rdn hnil).trans e00
 have hnil3:blk v < H3.len:=Nat.lt_of_lt_of_le hnil hS3.len
 refine GW_loop (fun k' fr H4=>∃ (j:Nat) (w:Value),k'=LL.length - j∧j≤LL.length∧fr.get 0=some (v)∧fr.get 2=some (.pointer (some ⟨H.len,0,none⟩))∧fr.get 8=some (.int .i64 (LL.length - 1))∧fr.get 12=some (w)∧fr.get 62=some (v)∧fr.get 63=some (.int .i64 LL.length)∧fr.get 64=some (.int .i64 j)∧OS 1 257 H3 H4 w (T.take (j * 112)).length (u8s (T.take (j * 112)))) ?_ LL.length ?_
 case refine_2=>
  refine ⟨0,.slice none 0 0,by omega,by omega,?_⟩
  simp only [↓yG,Nat.reduceEqDiff,↓reduceIte,Int.natCast_add,Int.cast_ofNat_Int,Int.natCast_zero,true_and,and_true,Option.some.injEq,Value.int.injEq,f0,f2,f8]
  simpa [u8s] using OS.nil (s:=1) (u:=257) (Same.refl hw3)
 rintro k' fr H4 ⟨j,w,rfl,hj,f0,f2,f8,f12,f62,f63,f64,hO⟩ J hJ
 have hS4:=hO.same
 have hw4:=hS4.wf
 have hlim4:=hw4.1
 have hL4:=hL3.later hw3 hS4
 by_cases hj1:j < LL.length
 ·have e1:=hL4.rowN hj1
  have hr:=hL4.rows _ (bmem hj1)
  have hxj:=hx j hj1
  generalize LL[j]! =y at *
  have hfl:=BkR.flat (b:=y.2) ⟨hr,.inr hxj.ne⟩
  have st0:=bk_set (v:=y.1) (b:=y.2) (cs:=zBk) rfl hfl
  obtain ⟨H5,hH5⟩:∃ H5,H5=(H4.add (some (.cells zBk 0 true))).put H4.len (.cells (bkC y.1 y.2) 0 true):=⟨_,rfl⟩
  have hS45:Same H4 H5:=hH5 ▸ (Same.refl hw4).new _ _
  have p5:H5.rd H4.len 17=some y.1:=by rw [hH5,rd_put_same];rfl
  have hHs5:=hH5.symm
  clear hH5
  have hr5:=hr.same_ hw4 hS45
  have hsy:=hr5.isSl
  have hyl:y.2.t.length=min 112 (T.length - j * 112):=by rw [hxj.t];simp
  have hjn:(j+1) * 112≤pcs T * 112:=Nat.mul_le_mul_right 112 (by omega)
  have hq:pcs T * 112 < T.length+112:=by unfold pcs;omega
  have hpos:=List.length_pos_iff.2 hxj.ne
  have htk:T.take ((j+1) * 112)=T.take (j * 112) ++ y.2.t:=by rw [hxj.t,Nat.add_mul,Nat.one_mul,List.take_add]
  obtain ⟨v',H6,e6,hO6,_⟩:=(hO.later hS45).appN (by decide) (by decide) hr5 (b:=1) (by simp only [List.length_take];omega) (by simp only [List.length_take];omega)
  rw [← u8s_append,← htk,show (T.take (j * 112)).length+y.2.t.length=(T.take ((j+1) * 112)).length by rw [htk,List.length_append]] at hO6
  have dE:decide ((y.2.t.length:Int)=0)=false:=decide_eq_false (by omega)
  by_cases hlast:j+1=pcs T
  case' pos=>
   have dA:decide ((j:Int) < (LL.length:Int) - 1)=false:=decide_eq_false (by omega)
   have dC:decide ((j:Int)=(LL.length:Int) - 1)=true:=decide_eq_true (by omega)
   have dB:=dA
  case' neg=>
   have h2:(j+2) * 112≤pcs T * 112:=Nat.mul_le_mul_right 112 (by omega)
   have dA:decide ((j:Int) < (LL.length:Int) - 1)=true:=decide_eq_true (by omega)
   have dC:decide ((j:Int)=(LL.length:Int) - 1)=false:=decide_eq_false (by omega)
   have dB:decide ((y.2.t.length:Int) < 112)=false:=decide_eq_false (by omega)
  all_goals
   repeat' (first|(exfalso;omega)|refine zz19 @g92.eq_1 @f0 @f2 @f8 @f12 @f62 @f63 @f64 hsl.ix @e1 @st0 @hHs5 @p5 hsy.len @dA @dB @dC @dE @e6 ?_|(refine zh (fun hc=>?_) (fun hc=>?_)<;>try simp only [yL] at hc))
  all_goals
   refine hJ _ _ ⟨LL.length - (j+1),by omega,j+1,v',rfl,by omega,?_⟩
   simp only [↓yG,Nat.reduceEqDiff,↓reduceIte,Int.natCast_add,Int.cast_ofNat_Int,Int.natCast_zero,true_and,and_true,Option.some.injEq,Value.int.injEq,f0,f2,f8,f62,f63]
   exact hO6
 obtain rfl:j=LL.length:=by omega
 have hq:T.length≤pcs T * 112:=by unfold pcs;omega
 rw [List.take_of_length_le (by omega)] at hO
 have e04:=(hS4.rdn hnil3).trans e03
 have hal:=hx0.al
 have st0:=bk_set (v:=LL[0]!.1) (b:=LL[0]!.2) (cs:=zBk) rfl hfl0
 have hE:∀ u,bkC u {LL[0]!.2 with x:=255}=bkC u {b with x:=255}:=fun u=>by
  obtain ⟨h1,h2,h3,h4,h5⟩:=hal
  simp only [bkC,h1,h2,h3,h4,h5]
 generalize LL[0]! =y at *
 have sa:gset (bkC y.1 y.2) 2 (.int .u8 255)=some (bkC y.1 {b with x:=255}):=by rw [bk_s2,hE]
 have sb:gset (bkC y.1 {b with x:=255}) 17 (.slice none 0 0)=some (bkC (.slice none 0 0) {b with x:=255}):=bk_s17 rfl
 have hS14:=hS13.trans hS4
 have hS45:Same H4 ((H4.add (some (.cells zBk 0 true))).put H4.len (.cells (bkC (.slice none 0 0) {b with x:=255}) 0 true)):=(Same.refl hw4).new _ _
 have hS15:=hS14.trans hS45
 have m5:=hS15.mine hl1
 rw [m1] at m5
 have st5:=bk_set (v:=.slice none 0 0) (b:={b with x:=255}) (cs:=zBk) rfl rfl
 have hll:=hS15.len
 repeat' (first|(exfalso;omega)|refine zz17 @g92.eq_1 @f0 @f2 @f8 @f12 @f62 @f63 @f64 hsl.ix @e04 @st0 @sa @sb @bk_len @bk_p18 @m5 @st5 ?_|(refine zh (fun hc=>?_) (fun hc=>?_)<;>try simp only [yL] at hc))
 refine hPost _ _ ⟨w,rfl,((hO.later hS45).weaken hS13).put0 hS1 (Nat.le_refl _) hl1 _⟩
end Go.Gh
end
