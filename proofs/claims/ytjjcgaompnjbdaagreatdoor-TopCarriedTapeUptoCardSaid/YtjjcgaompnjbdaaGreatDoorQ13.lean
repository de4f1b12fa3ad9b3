/-
  Parts of the proof: walks of the ghost functions and the laws of what they compute. No condition.
-/
import Derived.Test.YtjjcgaompnjbdaaGreatDoorQ12
section
namespace Go.Gh
set_option linter.unusedSimpArgs false
set_option linter.unusedVariables false
set_option maxHeartbeats 4000000
open Go.RowKit
set_option maxRecDepth 20000
def rkP (r a:Nat):Nat:=4 * r+(if a=2 then 0 else if a=1 then 1 else 2)
def okP (r a:Nat):Prop:=r < 15∧1≤a∧a≤3
theorem rgP_lt_all:((List.range 15).all fun r=>(List.range 3).all fun a=>(List.range 15).all fun r'=>(List.range 3).all fun a'=>
 ltN (rgP (r:Int) ((a+1:Nat):Int)).nm (rgP (r':Int) ((a'+1:Nat):Int)).nm == decide (rkP r (a+1) < rkP r' (a'+1)))=true:=by kernel_rfl
theorem rgP_lt {r a r' a':Nat} (h:okP r a) (h':okP r' a'):ltN (rgP r a).nm (rgP r' a').nm=decide (rkP r a < rkP r' a'):=by
 have h1:=List.all_eq_true.1 (List.all_eq_true.1 (List.all_eq_true.1 (List.all_eq_true.1 rgP_lt_all r (List.mem_range.2 h.1)) (a - 1) (List.mem_range.2 (by have:=h.2;omega))) r' (List.mem_range.2 h'.1)) (a' - 1) (List.mem_range.2 (by have:=h'.2;omega))
 rw [Nat.sub_add_cancel h.2.1,Nat.sub_add_cancel h'.2.1] at h1
 exact eq_of_beq h1
theorem rgP_nm_all:((List.range 15).all fun r=>(List.range 3).all fun a=>nameF (rgP (r:Int) ((a+1:Nat):Int)).nm)=true:=by kernel_rfl
theorem rgP_nm {r a:Nat} (h:okP r a):nameF (rgP r a).nm=true:=by
 have h1:=List.all_eq_true.1 (List.all_eq_true.1 rgP_nm_all r (List.mem_range.2 h.1)) (a - 1) (List.mem_range.2 (by have:=h.2;omega))
 rwa [Nat.sub_add_cancel h.2.1] at h1
theorem rk_inj {r a r' a':Nat} (h:okP r a) (h':okP r' a') (e:rkP r a=rkP r' a'):r=r'∧a=a':=by
 unfold rkP okP at *
 split at e<;>split at e<;>(repeat' split at e)<;>omega
theorem rgP_nm_inj {r a r' a':Nat} (h:okP r a) (h':okP r' a') (e:(rgP r a).nm=(rgP r' a').nm):r=r'∧a=a':=by
 have h1:=rgP_lt h h'
 have h2:=rgP_lt h' h
 have h3:=rgP_lt h h
 rw [e] at h1 h2 h3
 rw [h3] at h1 h2
 simp only [Nat.lt_irrefl,decide_false] at h1 h2
 exact rk_inj h h' (by have:=of_decide_eq_false h1.symm;have:=of_decide_eq_false h2.symm;omega)
theorem rgP_ok {r a:Nat} (h:okP r a):rgOk (rgP r a):=by
 have h2:=h.2
 have h1:=h.1
 refine ⟨rgP_nm h,?_,?_,?_,?_,?_⟩<;>simp only [rgP]<;>omega
structure RgS (L:List Rg) (M:List (Nat × Nat)):Prop where
 eq:L=M.map fun p=>rgP p.1 p.2
 ok:∀ p ∈ M,okP p.1 p.2
 srt:M.Pairwise fun p q=>rkP p.1 p.2 < rkP q.1 q.2
theorem ins_rgs {L:List Rg} {M:List (Nat × Nat)} (h:RgS L M) {r a:Nat} (hp:okP r a):∃ M',RgS (insF (rgP r a) L) M'∧∀ p,p ∈ M'↔p ∈ M∨p=(r,a):=by
 obtain ⟨rfl,ok,srt⟩:=h
 induction M with
 |nil=>exact ⟨[(r,a)],⟨rfl,by simpa using hp,by simp⟩,by simp⟩
 |cons q M ih=>
  obtain ⟨M',h1,h2⟩:=ih (fun p hp=>ok p (by simp [hp])) (List.pairwise_cons.1 srt).2
  have hq:=ok q (by simp)
  have hl:=rgP_lt hq hp
  simp only [List.map_cons,insF]
  rw [hl]
  by_cases c1:rkP q.1 q.2 < rkP r a
  ·rw [if_pos (decide_eq_true c1)]
   refine ⟨q :: M',⟨by rw [h1.eq];rfl,fun p hp=>?_,List.pairwise_cons.2 ⟨fun p hp=>?_,h1.srt⟩⟩,fun p=>by simp [h2,or_assoc]⟩
   ·rcases List.mem_cons.1 hp with rfl|hp
    ·exact hq
    ·exact h1.ok p hp
   ·rcases (h2 p).1 hp with hp|rfl
    ·exact (List.pairwise_cons.1 srt).1 p hp
    ·exact c1
  ·rw [if_neg (by simp [c1])]
   by_cases c2:(rgP q.1 q.2).nm=(rgP r a).nm
   ·rw [if_pos c2]
    obtain ⟨e1,e2⟩:=rgP_nm_inj hq hp c2
    refine ⟨q :: M,⟨rfl,ok,srt⟩,fun p=>⟨.inl,?_⟩⟩
    rintro (h|rfl)
    ·exact h
    ·rw [← e1,← e2];simp
   ·rw [if_neg c2]
    have c3:rkP r a < rkP q.1 q.2:=by
     rcases Nat.lt_trichotomy (rkP q.1 q.2) (rkP r a) with h|h|h
     ·exact absurd h c1
     ·obtain ⟨e1,e2⟩:=rk_inj hq hp h
      exact absurd (by rw [e1,e2]) c2
     ·exact h
    refine ⟨(r,a) :: q :: M,⟨rfl,fun p hp'=>?_,List.pairwise_cons.2 ⟨fun p hp'=>?_,srt⟩⟩,fun p=>by simp [or_comm,or_left_comm]⟩
    ·rcases List.mem_cons.1 hp' with rfl|hp'
     ·exact hp
     ·exact ok p hp'
    ·rcases List.mem_cons.1 hp' with rfl|hp'
     ·exact c3
     ·exact Nat.lt_trans c3 ((List.pairwise_cons.1 srt).1 p hp')
theorem rgs_find {L:List Rg} {M:List (Nat × Nat)} (h:RgS L M) {r a:Nat} (hp:okP r a) (hm:(r,a) ∈ M):findR L (rgP r a).nm=some (rgP r a):=by
 have hn:(rgP r a).nm≠[]:=fun e=>by simp [rgP] at e
 unfold findR
 rw [if_neg hn,h.eq]
 cases hf:(M.map fun p=>rgP p.1 p.2).find? fun x=>decide (x.nm=(rgP r a).nm) with
 |none=>
  have:=List.find?_eq_none.1 hf (rgP r a) (List.mem_map.2 ⟨(r,a),hm,rfl⟩)
  simp at this
 |some y=>
  have h1:=List.find?_some hf
  obtain ⟨q,hq,rfl⟩:=List.mem_map.1 (List.mem_of_find?_eq_some hf)
  obtain ⟨e1,e2⟩:=rgP_nm_inj (h.ok q hq) hp (by simpa using h1)
  rw [e1,e2]
theorem rgs_ok {L:List Rg} {M:List (Nat × Nat)} (h:RgS L M) (hl:L.length≤16):rgsOk L:=by
 refine ⟨hl,fun j hj=>?_⟩
 have hM:L.length=M.length:=by rw [h.eq,List.length_map]
 have at_:∀ k,k < M.length→∃ hk:k < M.length,L[k]! =rgP M[k].1 M[k].2∧okP M[k].1 M[k].2:=fun k hk=>⟨hk,by rw [getElem!_pos L k (by omega)];simp only [h.eq,List.getElem_map],h.ok _ (List.getElem_mem _)⟩
 obtain ⟨hk,e,ho⟩:=at_ j (by omega)
 refine ⟨by rw [e];exact rgP_ok ho,fun h0=>?_⟩
 obtain ⟨hk',e',ho'⟩:=at_ (j - 1) (by omega)
 have hlt:=List.pairwise_iff_getElem.1 h.srt (j - 1) j (by omega) (by omega) (by omega)
 rw [e,e']
 refine ⟨fun hn=>?_,?_⟩
 ·obtain ⟨e1,e2⟩:=rgP_nm_inj ho ho' hn
  rw [e1,e2] at hlt
  exact Nat.lt_irrefl _ hlt
 ·have:=rgP_lt ho ho'
  unfold ltN at this
  rw [this]
  exact decide_eq_false (by omega)
end Go.Gh
end
section
namespace Go.Gh
set_option linter.unusedSimpArgs false
set_option linter.unusedVariables false
set_option maxHeartbeats 4000000
open Go.RowKit
set_option maxRecDepth 4000
def ra (R:List Rg) (e:Ev):Nat × Nat:=((topF (rgO R e) e.L.length).toNat,(rgO R e).al.toNat)
theorem ra_ok {R:List Rg} {e:Ev} (h:PlE R e):okP (ra R e).1 (ra R e).2∧rgW R e=rgP (ra R e).1 (ra R e).2:=by
 have h1:=h.top
 have h2:=h.al
 refine ⟨⟨by simp only [ra];omega,by simp only [ra];omega,by simp only [ra];omega⟩,?_⟩
 rw [rgW]
 congr 1
 ·simp only [ra];omega
 ·simp only [ra];omega
theorem rgsF_s {R:List Rg} {E:List Ev} (h:∀ j,j < E.length→PlE R E[j]!):∀ j,j≤E.length→∃ M,RgS (rgsF R (E.take j)) M∧∀ i,i < j→ra R E[i]! ∈ M
 |0,_=>⟨[],⟨rfl,by simp,by simp⟩,fun i hi=>by omega⟩
 |j+1,hj=>by
  obtain ⟨M,h1,h2⟩:=rgsF_s h j (by omega)
  obtain ⟨a1,a2⟩:=ra_ok (h j (by omega))
  obtain ⟨M',h3,h4⟩:=ins_rgs h1 a1
  refine ⟨M',?_,fun i hi=>(h4 _).2 ?_⟩
  ·rw [take_bang (by omega),rgsF_snoc,a2];exact h3
  ·by_cases e:i=j
   ·subst e;exact .inr rfl
   ·exact .inl (h2 i (by omega))
theorem red_evOk {R L':List Rg} {M:List (Nat × Nat)} {e x:Ev} {j:Nat} (h:evOk R e) (hp:PlE R e) (hG:∀ l ∈ e.rows,RowG l) (hr:RedE R j e x) (hj:j < 1000) (hS:RgS L' M) (hm:ra R e ∈ M):evOk L' x:=by
 obtain ⟨a1,a2⟩:=ra_ok hp
 have hl:e.rows.length=e.L.length:=by simp [Ev.rows]
 have h1:=hp.n1
 have h4:=hp.n4
 have hxl:x.rows.length=e.L.length:=by rw [hr.rows,List.length_map,hl]
 have htn:=hp.tn
 have htp:=hp.top
 refine ⟨by rw [hr.id];omega,by rw [hr.i,hr.o];exact h.2.1,by rw [hr.kd];decide,.inl hr.sp,by omega,fun l hl=>?_,rgW R e,?_,?_⟩
 ·rw [hr.rows] at hl
  obtain ⟨l0,h0,rfl⟩:=List.mem_map.1 hl
  exact (bareF_row (hG l0 h0)).ok
 ·rw [hr.rg,a2];exact rgs_find hS a1 hm
 ·have hh:(rgW R e).h=15 - topF (rgO R e) e.L.length∧(rgW R e).w=32:=⟨rfl,rfl⟩
  refine ⟨.inr (by rw [a2];exact rgP_ok a1),by rw [List.length_map,hxl,hh.1];omega,fun n hn=>?_⟩
  obtain ⟨l,hl,rfl⟩:=List.mem_map.1 hn
  rw [hr.rows] at hl
  obtain ⟨l0,h0,rfl⟩:=List.mem_map.1 hl
  rw [(bareF_plain (hG l0 h0)).2,hh.2]
  refine ⟨?_,(hG l0 h0).ok.2.2.2.2.2⟩
  rw [lenF_ok (hG l0 h0).v]
  omega
theorem acc_rows {d:Dc} {j:Nat} (h:AccE d j):∀ l ∈ d.E[j]!.rows,RowG l:=fun l hl=>by
 obtain ⟨x,hx,rfl⟩:=List.mem_map.1 hl
 exact h.G x hx
theorem red_sm {d x:Dc} (hs:SmD d) (hac:∀ j,j < d.E.length→AccE d j) (hE:d.E.length≤16) (hr:RedD d d.E.length x) (hC:x.C=[]):SmD x:=by
 obtain ⟨M,hS,_⟩:=rgsF_s (fun j hj=>(hac j hj).pl) d.E.length (Nat.le_refl _)
 rw [← hr.R] at hS
 have hRl:=rgsF_len d.R (d.E.take d.E.length)
 rw [← hr.R,List.length_take] at hRl
 refine ⟨by rw [hr.ti];exact hs.ti,by rw [hr.la];exact hs.la,by rw [hr.rt];exact hs.rt,⟨by omega,fun r h=>?_⟩,⟨by rw [hr.len];omega,fun e h=>?_⟩,by rw [hC];exact ⟨by simp,fun c h=>by cases h⟩⟩
 ·rw [hS.eq] at h
  obtain ⟨p,hp,rfl⟩:=List.mem_map.1 h
  have ho:=hS.ok p hp
  have h1:=ho.1
  have h2:=ho.2
  refine ⟨by simp [rgP],?_,?_⟩<;>simp only [rgP]<;>omega
 ·obtain ⟨j,hj,rfl⟩:=List.getElem_of_mem h
  rw [hr.len] at hj
  have e1:=hr.E j hj
  rw [getElem!_pos x.E j (by rw [hr.len];exact hj)] at e1
  have ha:=hac j hj
  have hl:x.E[j].L.length=d.E[j]!.L.length:=by
   have:=congrArg List.length e1.rows
   simpa [Ev.rows] using this
  have hn:=ha.pl.n4
  refine ⟨by rw [e1.rg];simp [rgW,rgP],by rw [e1.sp];simp,by rw [e1.kd];decide,by omega,fun y hy=>?_⟩
  have:y.2 ∈ x.E[j].rows:=List.mem_map.2 ⟨y,hy,rfl⟩
  rw [e1.rows] at this
  obtain ⟨l,hl,e⟩:=List.mem_map.1 this
  rw [← e];exact smR_bare (acc_rows ha l hl)
structure RedOk (d x:Dc):Prop where
 acc:accOk x
 col:colD x
 bytes:encB x=encB d
 rg:∀ j,j < d.E.length→rgO x.R x.E[j]! =rgW d.R d.E[j]!
theorem red_ok {d x:Dc} (hs:SmD d) (hc:colD d) (ha:accOk d) (hE:d.E.length≤16) (hr:RedD d d.E.length x) (hC:x.C=[]):RedOk d x:=by
 have hac:∀ j,j < d.E.length→AccE d j:=fun j hj=>acc_ev hs hc ha hE hj
 obtain ⟨M,hS,hM⟩:=rgsF_s (fun j hj=>(hac j hj).pl) d.E.length (Nat.le_refl _)
 rw [← hr.R] at hS
 have hRl:=rgsF_len d.R (d.E.take d.E.length)
 rw [← hr.R,List.length_take] at hRl
 have hd:=ha.1
 have hev:∀ j,j < d.E.length→evOk x.R x.E[j]!:=fun j hj=>red_evOk (hd.2.2.1.2 j hj).1 (hac j hj).pl (acc_rows (hac j hj)) (hr.E j hj) (by omega) hS (hM j hj)
 have hrg:∀ j,j < d.E.length→rgO x.R x.E[j]! =rgW d.R d.E[j]!:=fun j hj=>by
  obtain ⟨a1,a2⟩:=ra_ok (hac j hj).pl
  rw [rgO,(hr.E j hj).rg,a2,rgs_find hS a1 (hM j hj)];rfl
 have hLl:∀ j,j < d.E.length→x.E[j]!.L.length=d.E[j]!.L.length:=fun j hj=>by
  have:=congrArg List.length (hr.E j hj).rows
  simpa [Ev.rows] using this
 have hacc:accOk x:=by
  refine ⟨⟨?_,rgs_ok hS (by omega),⟨by rw [hr.len];omega,fun j hj=>?_⟩,by rw [cmsOk,hC];exact ⟨by simp,fun j hj=>by simp at hj⟩⟩,by rw [hr.rt];exact ha.2.1,fun e he=>?_⟩
  ·obtain ⟨h1,h2,h3,h4,h5,_,_⟩:=hd.1
   exact ⟨by rw [hr.ti];exact h1,by rw [hr.ti];exact h2,by rw [hr.la];exact h3,by rw [hr.rt];exact h4,by rw [hr.rt,hr.dr];exact h5,by rw [hr.last];omega,by rw [hr.last];omega⟩
  ·rw [hr.len] at hj
   have e1:=hr.E j hj
   refine ⟨hev j hj,by rw [e1.id,hr.last];omega,fun h0=>?_,fun k hk=>by rw [e1.id,(hr.E k (by omega)).id];omega⟩
   have e2:=hr.E (j - 1) (by omega)
   have:=(hd.2.2.1.2 j hj).2.2.1 h0
   unfold lessE at this ⊢
   rw [e1.i,e2.i,e1.id,e2.id]
   omega
  ·obtain ⟨j,hj,rfl⟩:=List.getElem_of_mem he
   rw [hr.len] at hj
   have e1:=hr.E j hj
   rw [getElem!_pos x.E j (by rw [hr.len];exact hj)] at e1
   rw [e1.o,hr.rt]
   exact ha.2.2 _ (bang_mem hj)
 refine ⟨hacc,fun e he y hy r hr'=>?_,?_,hrg⟩
 ·obtain ⟨j,hj,rfl⟩:=List.getElem_of_mem he
  rw [hr.len] at hj
  have e1:=hr.E j hj
  rw [getElem!_pos x.E j (by rw [hr.len];exact hj)] at e1
  have:y.2 ∈ x.E[j].rows:=List.mem_map.2 ⟨y,hy,rfl⟩
  rw [e1.rows] at this
  obtain ⟨l,hl,e⟩:=List.mem_map.1 this
  exact (bareF_row (acc_rows (hac j hj) l hl)).c r (e ▸ hr')
 ·have hb:∀ j,j < d.E.length→evB x j=evB d j∧txE x.E[j]! =txE d.E[j]!:=fun j hj=>by
   have e1:=hr.E j hj
   refine ⟨?_,by rw [txE,txE,e1.rows,txtB_bare _ _ (acc_rows (hac j hj))]⟩
   unfold evB
   rw [hr.rt,e1.i,e1.o,hrg j hj]
   rfl
  have hbl:∀ n,n≤d.E.length→blE x n=blE d n:=fun n hn=>by
   unfold blE
   rw [List.flatMap_def,List.flatMap_def]
   congr 1
   refine List.map_congr_left fun j hj=>?_
   have:=hb j (by have:=List.mem_range.1 hj;omega)
   rw [this.1,this.2]
  unfold encB
  rw [hr.len,hbl _ (Nat.le_refl _)]
  congr 2
  unfold hdE
  rw [hr.rt,hr.la,hr.ti,hr.len]
  congr 1
  by_cases h0:d.E.length=0
  ·rw [if_pos h0,if_pos h0]
  ·rw [if_neg h0,if_neg h0,(hr.E 0 (by omega)).i]
end Go.Gh
end
section
namespace Go.Gh
set_option linter.unusedSimpArgs false
set_option linter.unusedVariables false
set_option maxHeartbeats 4000000
open Go.RowKit
set_option maxRecDepth 4000
def stE (d:Dc) (j:Nat):Nat:=(blE d j).length
theorem stE_succ (d:Dc) (j:Nat):stE d (j+1)=stE d j+pcs (txE d.E[j]!):=by rw [stE,blE_succ,List.length_append,splF_len];rfl
theorem blE_pre (d:Dc) (j:Nat):∀ k,∃ r,blE d (j+k)=blE d j ++ r
 |0=>⟨[],by simp⟩
 |k+1=>by
  obtain ⟨r,e⟩:=blE_pre d j k
  exact ⟨r ++ splF (evB d (j+k)) (txE d.E[j+k]!),by rw [← Nat.add_assoc,blE_succ,e,List.append_assoc]⟩
theorem blE_piece {d:Dc} {j:Nat} (hj:j < d.E.length):((blE d d.E.length).drop (stE d j)).take (pcs (txE d.E[j]!))=splF (evB d j) (txE d.E[j]!)∧stE d (j+1)≤(blE d d.E.length).length:=by
 obtain ⟨r,e⟩:=blE_pre d (j+1) (d.E.length - (j+1))
 rw [show j+1+(d.E.length - (j+1))=d.E.length by omega] at e
 refine ⟨?_,by rw [e,List.length_append];exact Nat.le_add_right _ _⟩
 rw [e,blE_succ,List.append_assoc,stE,List.drop_left,← splF_len (evB d j),List.take_left]
theorem blE_at {d:Dc} {j q:Nat} (hj:j < d.E.length) (hq:q < pcs (txE d.E[j]!)):(blE d d.E.length)[stE d j+q]! =splX (evB d j) (txE d.E[j]!) q:=by
 obtain ⟨h1,h2⟩:=blE_piece hj
 rw [stE_succ] at h2
 have h3:(((blE d d.E.length).drop (stE d j)).take (pcs (txE d.E[j]!)))[q]? =some (splX (evB d j) (txE d.E[j]!) q):=by
  rw [h1,splF,List.getElem?_map,List.getElem?_range hq];rfl
 rw [List.getElem?_take_of_lt hq,List.getElem?_drop] at h3
 rw [getElem!_pos _ _ (by omega)]
 rw [List.getElem?_eq_getElem (by omega)] at h3
 exact Option.some.inj h3
theorem BlR.sub {H:GHeap} {v:Value} {L:List VB} (h:BlR H v L) {a b:Nat} (h1:a≤b) (h2:b≤L.length):
 ∃ v',gslice (.sl 18) H v (some (.int .i64 a)) (some (.int .i64 b)) none=some v'∧BlR H v' ((L.drop a).take (b - a)):=by
 obtain ⟨v',e1,e2,_⟩:=h.rd.cut (k:=.i64) (a:=a) (b:=b) (by omega) (by omega) (by omega)
 refine ⟨v',e1,?_,fun x hx=>h.rows x (List.mem_of_mem_drop (List.mem_of_mem_take hx))⟩
 simp only [Int.toNat_natCast] at e2
 rw [BkL,(rows_split bkx_len L a).2,(rows_split bkx_len (L.drop a) (b - a)).1] at e2
 have hl:((L.drop a).take (b - a)).length=b - a:=by rw [List.length_take,List.length_drop];omega
 rw [hl];exact e2
theorem hd_stm {H:GHeap} {i u:Nat} {h:Hd} (e:H.mine i=some (hdC h,u)):H.rdn i 5 5=some (lbV h.st):=by
 have:=(mine_obj e).2
 simp only [GHeap.rdn,GHeap.cs,this];rfl
theorem gb_lbn {x:Lb}:gbin .neq (some (.parts [(0,none,.int),(1,none,.int),(2,none,.int),(3,none,.int),(4,none,.bool)])) (lbV x) (lbV x)=some (.bool false):=by
 have h:=gb_lb (x:=x)
 simp only [gbin,lbV] at h ⊢
 cases hq:geq (EqK.parts [(0,none,.int),(1,none,.int),(2,none,.int),(3,none,.int),(4,none,.bool)]) (.agg #[.int .i64 x.h,.int .i64 x.m,.int .i64 x.s,.int .i64 x.f,.bool false]) (.agg #[.int .i64 x.h,.int .i64 x.m,.int .i64 x.s,.int .i64 x.f,.bool false]) with
 |none=>rw [hq] at h;simp at h
 |some b=>rw [hq] at h;cases b<;>simp_all
theorem rdr_8n {H:GHeap} {i u:Nat} {x:Dc} {j:Int} (e:H.mine i=some (rdrC x j,u)):H.rdn i 0 8=some (dcV x):=by
 have:=(mine_obj e).2
 simp only [GHeap.rdn,GHeap.cs,this];rfl
theorem red_sorted {d x:Dc} (ha:accOk d) (hR:RedD d d.E.length x):Sorted x.E:=fun i h0 hi=>by
 rw [hR.len] at hi
 have e1:=hR.E i hi
 have e2:=hR.E (i - 1) (by omega)
 have:=(ha.1.2.2.1.2 i hi).2.2.1 h0
 unfold lessE at this ⊢
 rw [e1.i,e2.i,e1.id,e2.id]
 omega
theorem red_smE {d x:Dc} (hac:∀ j,j < d.E.length→AccE d j) (hr:RedD d d.E.length x):∀ e ∈ x.E,smE e:=fun e h=>by
 obtain ⟨j,hj,rfl⟩:=List.getElem_of_mem h
 rw [hr.len] at hj
 have e1:=hr.E j hj
 rw [getElem!_pos x.E j (by rw [hr.len];exact hj)] at e1
 have ha:=hac j hj
 have hl:x.E[j].L.length=d.E[j]!.L.length:=by
  have:=congrArg List.length e1.rows
  simpa [Ev.rows] using this
 have hn:=ha.pl.n4
 refine ⟨by rw [e1.rg];simp [rgW,rgP],by rw [e1.sp];simp,by rw [e1.kd];decide,by omega,fun y hy=>?_⟩
 have:y.2 ∈ x.E[j].rows:=List.mem_map.2 ⟨y,hy,rfl⟩
 rw [e1.rows] at this
 obtain ⟨l,hl,e⟩:=List.mem_map.1 this
 rw [← e];exact smR_bare (acc_rows ha l hl)
theorem decode_yes {H:GHeap} (hw:H.wf) {d:Dc} (hs:SmD d) (hc:colD d) (ha:accOk d) (hE:d.E.length≤15) {p:Value} (hp:RB H p (encB d)):
 ∃ q H',gev G 12 [p] H=some (q,H')∧∃ y,q=.tuple #[dcV y,.int .i64 0,.int .i64 0]∧DcO H H' y∧RedD d d.E.length y:=by
 have hac:∀ j,j < d.E.length→AccE d j:=fun j hj=>acc_ev hs hc ha (by omega) hj
 have hdr:d.dr=false:=by
  have:=ha.1.1.2.2.2.2.1
  rcases ha.2.1 with h|h<;>rw [h] at this<;>simpa [cdr] using this
 refine gev_GW (f:=12) rfl fun Post hPost=>?_
 have hlim:=hw.1
 simp only [frameOf,Nat.reduceAdd]
 repeat' (first|refine zz1 @g12.eq_1 ?_|(refine zh (fun hc=>?_) (fun hc=>?_)<;>try simp only [yL] at hc))
 have hS1:Same H (H.add (some (.cells zDc 0 true))):=(Same.refl hw).add _
 have m2:(H.add (some (.cells zDc 0 true))).mine H.len=some (zDc,0):=mine_add_eq rfl hlim
 generalize H.add (some (.cells zDc 0 true))=H1 at *
 have hbl:=blE_len hac _ (Nat.le_refl _)
 have hk:=blE_ok hac (Nat.le_refl _)
 refine zc0 (read_ok hS1.wf (h:=hdE d d.E.length (blE d d.E.length).length) (L:=blE d d.E.length) (hdE_ok ha hac (by omega) _) hk rfl (hp.same_ hw hS1)) fun r2 H2 hq=>?_
 obtain ⟨v,LL,rfl,hLL,hB⟩:=hq
 have hS2:=hS1.trans hB.own.same
 have m2:=(hB.own.same.mine (mine_lt hS1.wf m2)).trans m2
 have hw2:=hS2.wf
 have hlim2:=hw2.1
 obtain ⟨h,hh⟩:∃ h,h=hdE d d.E.length (blE d d.E.length).length:=⟨_,rfl⟩
 rw [← hh]
 have gsh:=hd_set (cs:=zHd) (h:=h) rfl
 obtain ⟨H3,hH3⟩:∃ K,K=(H2.add (some (.cells zHd 0 true))).put H2.len (.cells (hdC h) 0 true):=⟨_,rfl⟩
 have hS23:Same H2 H3:=hH3 ▸ (Same.refl hw2).new _ _
 have m5:H3.mine H2.len=some (hdC h,0):=by rw [hH3,mine_put_same (by rw [lim_add];exact hlim2)]
 have hHs3:=hH3.symm
 clear hH3
 have q5:=rd_mine m5
 have hsv:=hB.own.rd.isSl
 have hw3:=hS23.wf
 have hlim3:=hw3.1
 obtain ⟨x0,hx0⟩:∃ x:Dc,x=⟨d.ti,d.la,d.rt,false,0,.slice none 0 0,[],.slice none 0 0,[],.slice none 0 0,[]⟩:=⟨_,rfl⟩
 have ff:fillL [.string ⟨#[]⟩,.string ⟨#[]⟩,.int .u8 0,.bool false,.int .i64 0,.slice none 0 0,.slice none 0 0,.slice none 0 0,.int .i64 0] [(0,8,.agg #[.string (strB h.ti),.string (strB h.la),.int .u8 h.r,.bool false,.int .i64 0,.slice none 0 0,.slice none 0 0,.slice none 0 0])]=some (rdrC x0 0):=by
  rw [hx0,hh];simp [fillL,rdrC,dcC,Value.cells,flatV,hdE]
 have hfl:(rdrC x0 0).all flatV=true:=by rw [hx0];simp [rdrC,dcC,flatV]
 have mi:=mine_add_eq (H:=H3) (cs:=rdrC x0 0) (u:=0) rfl hlim3
 repeat' (first|refine zz9 @g12.eq_1 @gsh @hHs3 @q5 @RH @ff @agg_all @agg_list @hfl ?_|(refine zh (fun hc=>?_) (fun hc=>?_)<;>try simp only [yL] at hc))
 obtain ⟨H4,hH4⟩:∃ K,K=H3.add (some (.cells (rdrC x0 0) 0 true)):=⟨_,rfl⟩
 rw [← hH4] at mi ⊢
 have hS34:Same H3 H4:=hH4 ▸ (Same.refl hw3).add _
 clear hH4
 have hS24:=hS23.trans hS34
 have hS4:=hS2.trans hS24
 have m24:=(hS24.mine (mine_lt hw2 m2)).trans m2
 have m54:=(hS34.mine (mine_lt hw3 m5)).trans m5
 have hn5:H.len < H2.len:=mine_lt hw2 m2
 have hn9:H2.len < H3.len:=mine_lt hw3 m5
 have hB4:=(hB.weaken hS1).later hS24
 have hLl:LL.length=(blE d d.E.length).length:=by rw [← hLL,List.length_map]
 have hx0O:DcO H H4 x0:=by subst hx0;exact ⟨OS.nil hS4,⟨OS.nil hS4,fun e he=>by cases he⟩,fun a ha=>by simp [idOf] at ha,rfl,rfl⟩
 have hx0R:RedD d 0 {x0 with last:=d.E.length}:=by subst hx0;exact ⟨rfl,rfl,rfl,hdr.symm,rfl,rfl,rfl,fun i hi=>by omega⟩
 have hrt:=ha.2.1
 have hnm:=rt2_nm hrt
 generalize H3.len=i9 at *
 generalize H2.len=i5 at *
 refine GW_loop (fun k fr K=>∃ (j:Nat) (x:Dc),k=d.E.length - j∧j≤d.E.length∧fr.get 2=some (.pointer (some ⟨H.len,0,none⟩))∧fr.get 5=some (.pointer (some ⟨i5,0,none⟩))∧fr.get 6=some (v)∧fr.get 9=some (.pointer (some ⟨i9,0,none⟩))∧fr.get 10=some (.int .i64 (stE d j:Nat))∧DcO H K x∧RedD d j {x with last:=d.E.length}∧BO H K v LL∧K.mine H.len=some (zDc,0)∧K.mine i5=some (hdC h,0)∧K.mine i9=some (rdrC x j,0)) ?_ d.E.length ?_
 rotate_left
 ·refine ⟨0,x0,by omega,by omega,?_⟩
  simp only [↓yG,Nat.reduceEqDiff,↓reduceIte,Int.natCast_add,Int.cast_ofNat_Int,Int.natCast_zero,true_and,and_true,Option.some.injEq,Value.int.injEq]
  exact ⟨rfl,hx0O,hx0R,hB4,m24,m54,mi⟩
 rintro k fr K ⟨j,x,rfl,hj,f2,f5,f6,f9,f10,hO,hR,hB,m2,m5,m9⟩ J hJ
 have hS:=hO.rg.same
 have hwK:=hS.wf
 have hlimK:=hwK.1
 have hsv:=hB.own.rd.isSl
 by_cases hj1:j < d.E.length
 case neg=>
  obtain rfl:j=d.E.length:=by omega
  have hst:stE d d.E.length=LL.length:=hLl.symm
  rw [hst] at f10
  have q5:=rd_mine m5
  have hlb:lbF (nmn d.rt) 0=lb0:=by rcases hnm with e|e<;>rw [e]<;>rfl
  have k37:=label_ok hrt (f:=0) (by decide) (by omega)
  rw [hlb] at k37
  have hhr:h.r=d.rt∧h.gr=d.E.length∧h.st=lb0∧h.ro=15∧h.co=32:=by rw [hh];exact ⟨rfl,rfl,rfl,rfl,rfl⟩
  obtain ⟨hh1,hh2,hh3,hh4,hh5⟩:=hhr
  rw [← hh1] at k37
  have gsl:gsetn [.int .i64 0,.int .i64 0,.int .i64 0,.int .i64 0,.bool false] 0 5 (lbV lb0)=some (lbC lb0):=gsetn_all rfl rfl rfl
  obtain ⟨H7,hH7⟩:∃ Z,Z=(K.add (some (.cells [.int .i64 0,.int .i64 0,.int .i64 0,.int .i64 0,.bool false] 0 true))).put K.len (.cells (lbC lb0) 0 true):=⟨_,rfl⟩
  have hS7:Same K H7:=hH7 ▸ (Same.refl hwK).new _ _
  have m13:H7.mine K.len=some (lbC lb0,0):=by rw [hH7,mine_put_same (by rw [lim_add];exact hlimK)]
  have p13:H7.rdn K.len 0 5=some (lbV lb0):=rdn_mine m13 rfl
  have hHs7:=hH7.symm
  clear hH7
  have m97:=(hS7.mine (mine_lt hwK m9)).trans m9
  have m57:=(hS7.mine (mine_lt hwK m5)).trans m5
  have m27:=(hS7.mine (mine_lt hwK m2)).trans m2
  have q97:=rd_mine m97
  have q57:=rd_mine m57
  have p57:=hd_stm m57
  rw [hh3] at p57
  have gd:decide (¬ h.gr=(d.E.length:Int))=false:=decide_eq_false (by rw [hh2];simp)
  have c15:decide (¬ h.ro=15)=false:=decide_eq_false (by rw [hh4];simp)
  have c32:decide (¬ h.co=32)=false:=decide_eq_false (by rw [hh5];simp)
  have hO7:=hO.later hS7
  have hsrt:Sorted x.E:=red_sorted (x:={x with last:=d.E.length}) ha hR
  have hsmE:∀ e ∈ x.E,smE e:=red_smE (x:={x with last:=d.E.length}) hac hR
  repeat' (first|(exfalso;omega)|refine zz7 @g12.eq_1 @f2 @f5 @f6 @f9 @f10 hsv.len ?_|(refine zh (fun hc=>?_) (fun hc=>?_)<;>try simp only [yL] at hc))
  repeat' (first|refine zz20 @g12.eq_1 @f2 @f5 @f6 @f9 @q5 @RH @k37 @RK @gsl @hHs7 @q97 @q57 @p57 @p13 @RRd @gd @gb_lbn @c15 @c32 ?_|(refine zh (fun hc=>?_) (fun hc=>?_)<;>try simp only [yL] at hc))
  refine zc4 @f2 @f5 @f6 @f9 (sort_ok hS7.wf hO7.ev.evr (E:=x.E) hsrt (by rw [hR.len];omega) hsmE) fun r8 H8 hq=>?_
  obtain ⟨X,hX,hall⟩:=hq
  have hS8:=hX.own.same
  have m98:=(hS8.mine (mine_lt hS7.wf m97)).trans m97
  have m28:=(hS8.mine (mine_lt hS7.wf m27)).trans m27
  have hXl:X.length=d.E.length:=by rw [hall.1];exact hR.len
  have gs6:=rdr_s6 (x:=x) (j:=d.E.length) (w:=r8) (E:=X) hX.own.flat
  obtain ⟨x1,hx1⟩:∃ x1:Dc,x1={x with ev:=r8,E:=X}:=⟨_,rfl⟩
  rw [← hx1] at gs6
  have hO8:DcO H H8 x1:=by
   rw [hx1]
   exact ⟨hO7.rg.later hS8,⟨hX.own.weaken hO7.rg.same,fun e he=>(hX.rows e he).weaken hO7.rg.same⟩,fun a h1 h2=>by have:=(hO7.rg.ids h1).2.1;have:=(hX.own.ids h2).1;omega,hO7.cv,hO7.C⟩
  have hi9:H.len≤i9:=by omega
  obtain ⟨H9,hH9⟩:∃ Z,Z=H8.put i9 (.cells (rdrC x1 d.E.length) 0 true):=⟨_,rfl⟩
  have hO9:DcO H H9 x1:=hH9 ▸ hO8.cell m98 hi9
  have m99:H9.mine i9=some (rdrC x1 d.E.length,0):=by rw [hH9,mine_put_same (mine_obj m98).1]
  have m29:H9.mine H.len=some (zDc,0):=by rw [hH9,mine_put_ne (by omega)];exact m28
  have hHs9:=hH9.symm
  clear hH9
  have q99:=rd_mine m99
  have hev1:x1.ev=r8:=by rw [hx1]
  have hsX:=hX.own.rd.isSl
  rw [hXl] at hsX
  obtain ⟨x2,hx2⟩:∃ x2:Dc,x2={x1 with last:=d.E.length}:=⟨_,rfl⟩
  have gs4:gset (rdrC x1 d.E.length) 4 (.int .i64 d.E.length)=some (rdrC x2 d.E.length):=by rw [hx2];exact gset_ok (by simp [rdrC,dcC]) rfl
  have hO9':DcO H H9 x2:=by rw [hx2];exact ⟨hO9.rg,hO9.ev,hO9.dis,hO9.cv,hO9.C⟩
  obtain ⟨H10,hH10⟩:∃ Z,Z=H9.put i9 (.cells (rdrC x2 d.E.length) 0 true):=⟨_,rfl⟩
  have hO10:DcO H H10 x2:=hH10 ▸ hO9'.cell m99 hi9
  have m910:H10.mine i9=some (rdrC x2 d.E.length,0):=by rw [hH10,mine_put_same (mine_obj m99).1]
  have m210:H10.mine H.len=some (zDc,0):=by rw [hH10,mine_put_ne (by omega)];exact m29
  have hHs10:=hH10.symm
  clear hH10
  have p910:=rdr_8n m910
  have gsd:gsetn zDc 0 8 (dcV x2)=some (dcC x2):=gsetn_all rfl rfl (by
   have h1:=hO10.rg.flat
   have h2:=hO10.ev.own.flat
   have h3:flatV x2.cv=true:=by rw [hO10.cv];rfl
   simp [flatV_int,flatV_str,flatV_bool,h1,h2,h3])
  have p2:(H10.put H.len (.cells (dcC x2) 0 true)).rdn H.len 0 8=some (dcV x2):=rdn_dcp
  repeat' (first|refine zz17 @g12.eq_1 @f2 @f9 @m98 @gs6 @hHs9 @q99 @RRd @hev1 hsX.len @m99 @gs4 @hHs10 @p910 @m210 @gsd @p2 ?_|(refine zh (fun hc=>?_) (fun hc=>?_)<;>try simp only [yL] at hc))
  refine hPost _ _ ⟨x2,rfl,hO10.cell m210 (Nat.le_refl _),?_⟩
  rw [hx2,hx1]
  refine ⟨hR.ti,hR.la,hR.rt,hR.dr,rfl,hR.R,hXl,fun i hi=>?_⟩
  have h1:=hR.E i hi
  obtain ⟨h2,h3⟩:=hall.2 i (by rw [show x.E.length=d.E.length from hR.len];exact hi)
  show RedE d.R i d.E[i]! X[i]!
  rw [h2]
  exact ⟨h1.id,h1.i,h1.o,h1.rg,h1.kd,h1.sp,by show X[i]!.L.map (·.2)=_;rw [h3];exact h1.rows⟩
 have hae:=hac j hj1
 obtain ⟨hpc,hpl⟩:=blE_piece hj1
 have hp1:=spl_len hae
 have hpa:=fun q hq=>blE_at (q:=q) hj1 hq
 have hss:=stE_succ d j
 rw [hss] at hpl
 have dl:decide (((stE d j:Nat):Int) < LL.length)=true:=decide_eq_true (by omega)
 repeat' (first|(exfalso;omega)|refine zz8 @g12.eq_1 @f2 @f5 @f6 @f9 @f10 hsv.len @dl ?_|(refine zh (fun hc=>?_) (fun hc=>?_)<;>try simp only [yL] at hc))
 refine GW_loop (fun k fr Z=>∃ q:Nat,k=pcs (txE d.E[j]!) - q∧q < pcs (txE d.E[j]!)∧fr.get 2=some (.pointer (some ⟨H.len,0,none⟩))∧fr.get 5=some (.pointer (some ⟨i5,0,none⟩))∧fr.get 6=some (v)∧fr.get 9=some (.pointer (some ⟨i9,0,none⟩))∧fr.get 10=some (.int .i64 (stE d j:Nat))∧fr.get 11=some (.int .i64 (stE d j+q:Nat))∧Z=K) ?_ (pcs (txE d.E[j]!)) ?_
 rotate_left
 ·refine ⟨0,by omega,by omega,?_⟩
  simp only [↓yG,Nat.reduceEqDiff,↓reduceIte,Int.natCast_add,Int.cast_ofNat_Int,Int.natCast_zero,true_and,and_true,Option.some.injEq,Value.int.injEq,f2,f5,f6,f9,f10]
  omega
 rintro k fr Z ⟨q,rfl,hq,f2,f5,f6,f9,f10,f11,rfl⟩ J2 hJ2
 have e1:Z.rd (blk v) (ofs v+(stE d j+q) * 18+2)=some (.int .u8 LL[stE d j+q]!.2.x):=GRd.row (f:=bkx) hB.own.rd bkx_len (k:=stE d j+q) (c:=2) (by omega) (by decide)
 have hxq:LL[stE d j+q]!.2.x=if q+1=pcs (txE d.E[j]!) then 255 else (q:Int):=by
  have h1:(LL.map (·.2))[stE d j+q]! =LL[stE d j+q]!.2:=by
   rw [getElem!_pos _ _ (by rw [List.length_map];omega),getElem!_pos LL _ (by omega),List.getElem_map]
  rw [← h1,hLL,hpa q hq];rfl
 rw [hxq] at e1
 by_cases hq1:q+1 < pcs (txE d.E[j]!)
 ·rw [if_neg (by omega)] at e1
  have d45:decide (((stE d j+q:Nat):Int) < (LL.length:Int) - 1)=true:=decide_eq_true (by omega)
  have d52:decide (¬ (q:Int)=255)=true:=decide_eq_true (by omega)
  repeat' (first|(exfalso;omega)|refine zz12 @g12.eq_1 @f2 @f5 @f6 @f9 @f10 @f11 hsv.len hsv.ix @d45 @e1 @d52 ?_|(refine zh (fun hc=>?_) (fun hc=>?_)<;>try simp only [yL] at hc))
  refine hJ2 _ _ ⟨pcs (txE d.E[j]!) - (q+1),by omega,q+1,rfl,by omega,?_⟩
  simp only [↓yG,Nat.reduceEqDiff,↓reduceIte,Int.natCast_add,Int.cast_ofNat_Int,Int.natCast_zero,true_and,and_true,Option.some.injEq,Value.int.injEq,f2,f5,f6,f9,f10]
  omega
 have hqe:q+1=pcs (txE d.E[j]!):=by omega
 rw [if_pos hqe] at e1
 have hxrt:x.rt=d.rt:=hR.rt
 have hxl:x.E.length=j:=hR.len
 have hxR:x.R=rgsF d.R (d.E.take j):=hR.R
 have hxRl:=rgsF_len d.R (d.E.take j)
 rw [← hxR,List.length_take] at hxRl
 have hpl':∀ i,i < d.E.length→PlE d.R d.E[i]!:=fun i hi=>(hac i hi).pl
 obtain ⟨M,hM,_⟩:=rgsF_s hpl' j hj
 obtain ⟨M',hM',hmm⟩:=rgsF_s hpl' (j+1) hj1
 have htk:=rgsF_snoc d.R (d.E.take j) d.E[j]!
 rw [← take_bang hj1,← hxR] at htk
 rw [← hxR] at hM
 have hrows:=acc_rows hae
 have hevd:=(ha.1.2.2.1.2 j hj1).1
 have hsmR:∀ r ∈ x.R,smG r:=fun r hr=>by
  rw [hM.eq] at hr
  obtain ⟨p,hp,rfl⟩:=List.mem_map.1 hr
  have h1:=(hM.ok p hp).1
  have h2:=(hM.ok p hp).2
  refine ⟨by simp [rgP],?_,?_⟩<;>simp only [rgP]<;>omega
 have hfi:=lbF_ok hnm hae.i0 hae.i1
 have hfo:=lbF_ok hnm hae.o0 hae.o1
 have hri:frB x.rt (evB d j).i=d.E[j]!.i:=by rw [frB,hxrt];exact hfi.2
 have hro:frB x.rt (evB d j).o=d.E[j]!.o:=by rw [frB,hxrt];exact hfo.2
 have hrw:rgP (evB d j).r (evB d j).al=rgW d.R d.E[j]!:=rfl
 have hrl:d.E[j]!.rows.length=d.E[j]!.L.length:=by simp [Ev.rows]
 have hE':∀ v L,L.map (·.2)=d.E[j]!.rows.map bareF→RedE d.R j d.E[j]! ⟨j+1,frB x.rt (evB d j).i,frB x.rt (evB d j).o,(rgP (evB d j).r (evB d j).al).nm,1,[],v,L⟩:=fun v L hL=>⟨rfl,hri,hro,rfl,rfl,rfl,hL⟩
 have hev:∀ v L,L.map (·.2)=d.E[j]!.rows.map bareF→evOk (insF (rgP (evB d j).r (evB d j).al) x.R) ⟨j+1,frB x.rt (evB d j).i,frB x.rt (evB d j).o,(rgP (evB d j).r (evB d j).al).nm,1,[],v,L⟩:=fun v L hL=>by
  rw [hrw,← htk]
  exact red_evOk hevd hae.pl hrows (hE' v L hL) (by omega) hM' (hmm j (Nat.lt_succ_self j))
 obtain ⟨sv,es,hsub⟩:=hB.rd.sub (a:=stE d j) (b:=stE d j+pcs (txE d.E[j]!)) (Nat.le_add_right _ _) (by omega)
 rw [show ((stE d j+pcs (txE d.E[j]!):Nat):Int)=((stE d j+q:Nat):Int)+1 by omega] at es
 rw [Nat.add_sub_cancel_left] at hsub
 have hsubL:((LL.drop (stE d j)).take (pcs (txE d.E[j]!))).map (·.2)=splF (evB d j) (txE d.E[j]!):=by rw [List.map_take,List.map_drop,hLL,hpc]
 have hne:d.E[j]!.rows≠[]:=fun e=>by rw [e] at hrl;have:=hae.pl.n1;simp only [List.length_nil] at hrl;omega
 have hsubt:=subtitle_ok hO m9 (by omega) hxl (by omega) (by omega) hsmR (by rw [hxrt];exact hrt) hae.bk rfl (by rw [hxrt];exact hfi.1) (by rw [hxrt];exact hfo.1) hne (by have:=hae.pl.n4;omega) hrows hae.ti hae.t0 hae.tb hae.tl hev hsub hsubL
 have hdl:decide (((stE d j+q:Nat):Int) < (LL.length:Int) - 1)=true∨decide (((stE d j+q:Nat):Int) < (LL.length:Int) - 1)=false:=by
  cases decide (((stE d j+q:Nat):Int) < (LL.length:Int) - 1)<;>simp
 have d52:decide (¬ (255:Int)=255)=false:=rfl
 rcases hdl with d45|d45
 all_goals
  repeat' (first|(exfalso;omega)|refine zz13 @g12.eq_1 @f2 @f5 @f6 @f9 @f10 @f11 hsv.len hsv.ix @d45 @e1 @d52 @es ?_|(refine zh (fun hc=>?_) (fun hc=>?_)<;>try simp only [yL] at hc))
  refine zc6 @f2 @f5 @f6 @f9 @f10 @f11 (hsubt) fun r7 H7 hq=>?_
  obtain ⟨x',L',rfl,m97,hO7,hK7,hL7,hx'⟩:=hq
  repeat' (first|refine zz7 @g12.eq_1 @f2 @f5 @f6 @f9 @f10 @f11 ?_|(refine zh (fun hc=>?_) (fun hc=>?_)<;>try simp only [yL] at hc))
  refine hJ _ _ ⟨d.E.length - (j+1),by omega,j+1,x',rfl,by omega,?_⟩
  simp only [↓yG,Nat.reduceEqDiff,↓reduceIte,Int.natCast_add,Int.cast_ofNat_Int,Int.natCast_zero,true_and,and_true,Option.some.injEq,Value.int.injEq,f2,f5,f6,f9]
  refine ⟨by rw [hss];omega,hO7,?_,hB.keep7 m9 hK7 hO7.rg.same,hK7 _ _ _ (by omega) (by decide) m2,hK7 _ _ _ (by omega) (by decide) m5,m97⟩
  rw [hx']
  refine ⟨hR.ti,hR.la,hR.rt,hR.dr,rfl,by show insF (rgP (evB d j).r (evB d j).al) x.R=_;rw [hrw,← htk],by simp [hxl],fun i hi=>?_⟩
  by_cases hij:i=j
  ·subst hij
   show RedE d.R i d.E[i]! (x.E ++ [_])[i]!
   rw [← hxl,getE_last,hxl]
   exact hE' _ _ hL7
  ·show RedE d.R i d.E[i]! (x.E ++ [_])[i]!
   rw [getE_snoc (by omega)]
   exact hR.E i (by omega)
end Go.Gh
end
section
namespace Go.Gh
set_option linter.unusedSimpArgs false
set_option linter.unusedVariables false
set_option maxHeartbeats 4000000
open Go.RowKit
set_option maxRecDepth 4000
def h5V (d:Dc):Value:=.agg #[.string (strB d.ti),.string (strB d.la),.int .u8 d.rt,.bool d.dr,.int .i64 d.last]
theorem head_ok {H:GHeap} (hw:H.wf) {d:Dc} (hf:(dcV d).cells.all flatV=true):∃ r H',gev G 31 [dcV d] H=some (r,H')∧(r=h5V d∧Same H H'):=by
 refine gev_GW (f:=31) rfl fun Post hPost=>?_
 have hlim:=hw.1
 simp only [frameOf,Nat.reduceAdd]
 repeat' (first|refine zz3 @g31.eq_1 @RDc @hf ?_|(refine zh (fun hc=>?_) (fun hc=>?_)<;>try simp only [yL] at hc))
 exact hPost _ _ ⟨rfl,((Same.refl hw).add _).new _ _⟩
theorem gb_neA {q:EqK} {a b:Array Value} {t:Bool} (h:gbin .eql (some q) (.agg a) (.agg b)=some (.bool t)):gbin .neq (some q) (.agg a) (.agg b)=some (.bool !t):=by
 simp only [gbin] at h ⊢
 cases hq:geq q (.agg a) (.agg b) with
 |none=>rw [hq] at h;simp at h
 |some b=>rw [hq] at h;simp at h;simp [h]
theorem gb_neG {r:Rg}:gbin .neq (some (.parts [(0,none,.str),(1,none,.int),(2,none,.int),(3,none,.int),(4,none,.int),(5,none,.int),(6,none,.bool)])) (rgV r) (rgV r)=some (.bool false):=by
 have h:=gb_eqG (a:=r) (b:=r)
 rw [decide_eq_true rfl] at h
 exact gb_neA h
theorem gb_s2 {i o:Int}:gbin .eql (some (.parts [(0,none,.int),(1,none,.int)])) (s2 i o) (s2 i o)=some (.bool true):=by
 have h0:∀ n,geqIn (n+1) (.parts [(0,none,.int),(1,none,.int)]) (s2 i o) (s2 i o)=match geqIn n .int (.int .i64 i) (.int .i64 i) with
  |some true=>(match geqIn n .int (.int .i64 o) (.int .i64 o) with
   |some true=>some true
   |z=>z)
  |z=>z:=fun n=>rfl
 have:=h0 11
 simp only [geq_int,beq_self_eq_true] at this
 simp only [gbin,s2,geq] at this ⊢
 rw [this];rfl
theorem gb_s2n {i o:Int}:gbin .neq (some (.parts [(0,none,.int),(1,none,.int)])) (s2 i o) (s2 i o)=some (.bool false):=gb_neA gb_s2
theorem gb_h5 {d:Dc}:gbin .eql (some (.parts [(0,none,.str),(1,none,.str),(2,none,.int),(3,none,.bool),(4,none,.int)])) (h5V d) (h5V d)=some (.bool true):=by
 have h0:∀ n,geqIn (n+1) (.parts [(0,none,.str),(1,none,.str),(2,none,.int),(3,none,.bool),(4,none,.int)]) (h5V d) (h5V d)=match geqIn n .str (.string (strB d.ti)) (.string (strB d.ti)) with
  |some true=>(match geqIn n .str (.string (strB d.la)) (.string (strB d.la)) with
   |some true=>(match geqIn n .int (.int .u8 d.rt) (.int .u8 d.rt) with
    |some true=>(match geqIn n .bool (.bool d.dr) (.bool d.dr) with
     |some true=>(match geqIn n .int (.int .i64 d.last) (.int .i64 d.last) with
      |some true=>some true
      |z=>z)
     |z=>z)
    |z=>z)
   |z=>z)
  |z=>z:=fun n=>rfl
 have:=h0 11
 simp only [geq_str,geq_int,geq_bool,strB_beq,decide_true,beq_self_eq_true] at this
 simp only [gbin,h5V,geq] at this ⊢
 rw [this];rfl
theorem eqRg_ok {H:GHeap} {v w:Value} {L:List Rg} (hv:RgR H v L) (hw:RgR H w L) (hl:L.length≤1048576):∃ r H',gev G 32 [v,w] H=some (r,H')∧(r=.bool true∧H'=H):=by
 refine gev_GW (f:=32) rfl fun Post hPost=>?_
 have hs1:=hv.rd.isSl
 have hs2:=hw.rd.isSl
 simp only [frameOf,Nat.reduceAdd]
 repeat' (first|refine zz3 @g32.eq_1 hs1.len hs2.len ?_|(refine zh (fun hc=>?_) (fun hc=>?_)<;>try simp only [yL] at hc))
 refine GW_loop (fun k fr K=>∃ j:Nat,k=L.length - j∧j≤L.length∧fr.get 0=some (v)∧fr.get 1=some (w)∧fr.get 12=some (.int .i64 L.length)∧fr.get 13=some (.int .i64 j)∧K=H) ?_ L.length ?_
 rotate_left
 ·refine ⟨0,rfl,by omega,?_⟩
  simp only [↓yG,Nat.reduceEqDiff,↓reduceIte,Int.natCast_add,Int.cast_ofNat_Int,Int.natCast_zero,true_and,and_true,Option.some.injEq,Value.int.injEq]
 rintro k fr K ⟨j,rfl,hj,f0,f1,f12,f13,rfl⟩ J hJ
 by_cases hj1:j < L.length
 ·have e1:=hv.rowN hj1
  have e2:=hw.rowN hj1
  repeat' (first|(exfalso;omega)|refine zz10 @g32.eq_1 @f0 @f1 @f12 @f13 hs1.ix hs2.ix @e1 @e2 @gb_neG ?_|(refine zh (fun hc=>?_) (fun hc=>?_)<;>try simp only [yL] at hc))
  refine hJ _ _ ⟨L.length - (j+1),by omega,j+1,rfl,by omega,?_⟩
  simp only [↓yG,Nat.reduceEqDiff,↓reduceIte,Int.natCast_add,Int.cast_ofNat_Int,Int.natCast_zero,true_and,and_true,Option.some.injEq,Value.int.injEq,f0,f1,f12]
 ·repeat' (first|(exfalso;omega)|refine zz5 @g32.eq_1 @f0 @f1 @f12 @f13 ?_|(refine zh (fun hc=>?_) (fun hc=>?_)<;>try simp only [yL] at hc))
  exact hPost _ _ ⟨rfl,rfl⟩
theorem eqCm_ok {H:GHeap}:∃ r H',gev G 34 [.slice none 0 0,.slice none 0 0] H=some (r,H')∧(r=.bool true∧H'=H):=by
 refine gev_GW (f:=34) rfl fun Post hPost=>?_
 simp only [frameOf,Nat.reduceAdd]
 repeat' (first|refine zz1 @g34.eq_1 ?_|(refine zh (fun hc=>?_) (fun hc=>?_)<;>try simp only [yL] at hc))
 refine GW_loop (fun k fr K=>k=0∧fr.get 12=some (.int .i64 0)∧fr.get 13=some (.int .i64 0)∧K=H) ?_ 0 ?_
 rotate_left
 ·refine ⟨rfl,?_⟩
  simp only [↓yG,Nat.reduceEqDiff,↓reduceIte,Int.natCast_add,Int.cast_ofNat_Int,Int.natCast_zero,true_and,and_true,Option.some.injEq,Value.int.injEq]
 rintro k fr K ⟨rfl,f12,f13,rfl⟩ J hJ
 repeat' (first|(exfalso;omega)|refine zz3 @g34.eq_1 @f12 @f13 ?_|(refine zh (fun hc=>?_) (fun hc=>?_)<;>try simp only [yL] at hc))
 exact hPost _ _ ⟨rfl,rfl⟩
structure EqE (a b:Ev):Prop where
 id:b.id=a.id
 i:b.i=a.i
 o:b.o=a.o
 rg:b.rg=a.rg
 kd:b.kd=a.kd
 sp:b.sp=a.sp
 rows:b.rows=a.rows
theorem esame_ok {H:GHeap} (hw:H.wf) {a b:Ev} (hA:TR H a.v a.L) (hB:TR H b.v b.L) (sa:smE a) (sb:smE b) (h:EqE a b):∃ r H',gev G 30 [evV a,evV b] H=some (r,H')∧(r=.bool true∧Same H H'):=by
 obtain ⟨id,i,o,rg,kd,sp,w,L⟩:=b
 obtain ⟨h1,h2,h3,h4,h5,h6,h7⟩:=h
 simp only at h1 h2 h3 h4 h5 h6 hB
 subst h1 h2 h3 h4 h5 h6
 refine gev_GW (f:=30) rfl fun Post hPost=>?_
 have hlim:=hw.1
 have fa:=ev_cflat hA.rd.flat
 have fb:=ev_cflat (e:=⟨a.id,a.i,a.o,a.rg,a.kd,a.sp,w,L⟩) hB.rd.flat
 simp only [frameOf,Nat.reduceAdd]
 have hS:Same H ((H.add (some (.cells (evC a) 0 true))).add (some (.cells (evC ⟨a.id,a.i,a.o,a.rg,a.kd,a.sp,w,L⟩) 0 true))):=((Same.refl hw).add _).add _
 repeat' (first|refine zz6 @g30.eq_1 @RE @fa @fb @gb_s2 @gb_eqlB ?_|(refine zh (fun hc=>?_) (fun hc=>?_)<;>try simp only [yL] at hc))
 refine zc0 (sameRows_ok hS.wf (hA.later hw hS) (hB.later hw hS) (by have:=sa.2.2.2.1;omega) (by have:=sb.2.2.2.1;simp only at this;omega) (fun x hx=>by have:=(sa.2.2.2.2 x hx).1;omega) (fun x hx=>by have:=(sb.2.2.2.2 x hx).1;omega)) fun r3 H3 hq=>?_
 obtain ⟨rfl,hS3⟩:=hq
 have hd:decide (a.L.map (·.2)=L.map (·.2))=true:=decide_eq_true h7.symm
 repeat' (first|refine zz2 @g30.eq_1 @hd ?_|(refine zh (fun hc=>?_) (fun hc=>?_)<;>try simp only [yL] at hc))
 exact hPost _ _ ⟨rfl,hS.trans hS3⟩
theorem eqEv_ok {H:GHeap} (hw:H.wf) {v w:Value} {A B:List Ev} (hA:EvR H v A) (hB:EvR H w B) (hl:B.length=A.length) (hl16:A.length≤400) (sA:∀ e ∈ A,smE e) (sB:∀ e ∈ B,smE e) (h:∀ j,j < A.length→EqE A[j]! B[j]!):
 ∃ r H',gev G 33 [v,w,.func (.func 30) #[] #[]] H=some (r,H')∧(r=.bool true∧Same H H'):=by
 refine gev_GW (f:=33) rfl fun Post hPost=>?_
 have hlim:=hw.1
 have hs1:=hA.rd.rd.isSl
 have hs2:=hB.rd.rd.isSl
 rw [hl] at hs2
 simp only [frameOf,Nat.reduceAdd]
 repeat' (first|refine zz3 @g33.eq_1 hs1.len hs2.len ?_|(refine zh (fun hc=>?_) (fun hc=>?_)<;>try simp only [yL] at hc))
 refine GW_loop (fun k fr K=>∃ j:Nat,k=A.length - j∧j≤A.length∧fr.get 1=some (w)∧fr.get 2=some (.func (.func 30) #[] #[])∧fr.get 15=some (v)∧fr.get 16=some (.int .i64 A.length)∧fr.get 17=some (.int .i64 j)∧Same H K) ?_ A.length ?_
 rotate_left
 ·refine ⟨0,rfl,by omega,?_⟩
  simp only [↓yG,Nat.reduceEqDiff,↓reduceIte,Int.natCast_add,Int.cast_ofNat_Int,Int.natCast_zero,true_and,and_true,Option.some.injEq,Value.int.injEq]
  exact Same.refl hw
 rintro k fr K ⟨j,rfl,hj,f1,f2,f15,f16,f17,hS⟩ J hJ
 have hwK:=hS.wf
 have hlimK:=hwK.1
 by_cases hj1:j < A.length
 case neg=>
  repeat' (first|(exfalso;omega)|refine zz6 @g33.eq_1 @f1 @f2 @f15 @f16 @f17 ?_|(refine zh (fun hc=>?_) (fun hc=>?_)<;>try simp only [yL] at hc))
  exact hPost _ _ ⟨rfl,hS⟩
 have e1:=(hA.later hw hS).rowN hj1
 have e2:=(hB.later hw hS).rowN (k:=j) (by omega)
 have hT1:=(hA.later hw hS).at_ hj1
 have hT2:=(hB.later hw hS).at_ (k:=j) (by omega)
 have sa:=sA _ (bang_mem hj1)
 have sb:=sB _ (bang_mem (l:=B) (j:=j) (by omega))
 have hq:=h j hj1
 generalize A[j]! =a at *
 generalize B[j]! =b at *
 have ga:=gsetn_ev (cs:=zEv) (e:=a) rfl hT1.rd.flat
 have gb:=gsetn_ev (cs:=zEv) (e:=b) rfl hT2.rd.flat
 obtain ⟨H1,hH1⟩:∃ Z,Z=(K.add (some (.cells zEv 0 true))).put K.len (.cells (evC a) 0 true):=⟨_,rfl⟩
 have hS1:Same K H1:=hH1 ▸ (Same.refl hwK).new _ _
 have m1:H1.mine K.len=some (evC a,0):=by rw [hH1,mine_put_same (by rw [lim_add];exact hlimK)]
 have hHs1:=hH1.symm
 clear hH1
 have hw1:=hS1.wf
 have hlim1:=hw1.1
 obtain ⟨H2,hH2⟩:∃ Z,Z=(H1.add (some (.cells zEv 0 true))).put H1.len (.cells (evC b) 0 true):=⟨_,rfl⟩
 have hS2:Same H1 H2:=hH2 ▸ (Same.refl hw1).new _ _
 have m2:H2.mine H1.len=some (evC b,0):=by rw [hH2,mine_put_same (by rw [lim_add];exact hlim1)]
 have hHs2:=hH2.symm
 clear hH2
 have e2':H1.rdn (blk w) (ofs w+j * 7) 7=some (evV b):=by rw [hS1.rdn (hB.later hw hS |> fun h=>h.rd.rd.lt (by omega))];exact e2
 have p1:H2.rdn K.len 0 7=some (evV a):=rdn_mine ((hS2.mine (mine_lt hw1 m1)).trans m1) rfl
 have p2:H2.rdn H1.len 0 7=some (evV b):=rdn_mine m2 rfl
 have hS12:=hS1.trans hS2
 repeat' (first|(exfalso;omega)|refine zz16 @g33.eq_1 @f1 @f2 @f15 @f16 @f17 hs1.ix hs2.ix @e1 @ga @hHs1 @e2' @gb @hHs2 @p1 @p2 ?_|(refine zh (fun hc=>?_) (fun hc=>?_)<;>try simp only [yL] at hc))
 refine zc5 @f1 @f2 @f15 @f16 @f17 (esame_ok hS2.wf (hT1.later hwK hS12) (hT2.later hwK hS12) sa sb hq) fun r3 H3 hq=>?_
 obtain ⟨rfl,hS3⟩:=hq
 repeat' (first|refine zz6 @g33.eq_1 @f1 @f2 @f15 @f16 @f17 ?_|(refine zh (fun hc=>?_) (fun hc=>?_)<;>try simp only [yL] at hc))
 refine hJ _ _ ⟨A.length - (j+1),by omega,j+1,rfl,by omega,?_⟩
 simp only [↓yG,Nat.reduceEqDiff,↓reduceIte,Int.natCast_add,Int.cast_ofNat_Int,Int.natCast_zero,true_and,and_true,Option.some.injEq,Value.int.injEq,f1,f2,f15,f16]
 exact hS.trans (hS12.trans hS3)
end Go.Gh
end
section
namespace Go.Gh
set_option linter.unusedSimpArgs false
set_option linter.unusedVariables false
set_option maxHeartbeats 4000000
open Go.RowKit
set_option maxRecDepth 4000
theorem EvR.up {H:GHeap} {v:Value} {l:List Ev} (h:EvR H v l):EvR H.up v l:=⟨GArg1.up h.rd,fun e he=>(h.rows e he).up⟩
theorem dsame_ok {H:GHeap} (hw:H.wf) {y x:Dc} (hy:DcR H y) (hx:DcR H x) (sy:SmD y) (sx:SmD x) (hh:h5V y=h5V x) (hR:y.R=x.R) (hl:x.E.length=y.E.length) (hl4:y.E.length≤400) (hE:∀ j,j < y.E.length→EqE y.E[j]! x.E[j]!) (hcy:y.cv=.slice none 0 0) (hcx:x.cv=.slice none 0 0):
 ∃ r H',gev G 9 [dcV y,dcV x] H=some (r,H')∧(r=.bool true∧Same H H'):=by
 refine gev_GW (f:=9) rfl fun Post hPost=>?_
 have hlim:=hw.1
 have fy:=dc_cflat hy
 have fx:=dc_cflat hx
 simp only [frameOf,Nat.reduceAdd]
 obtain ⟨H1,hH1⟩:∃ H1,H1=(H.add (some (.cells (dcC y) 0 true))).add (some (.cells (dcC x) 0 true)):=⟨_,rfl⟩
 have hSa:Same H (H.add (some (.cells (dcC y) 0 true))):=(Same.refl hw).add _
 have hS1:Same H H1:=hH1 ▸ hSa.add _
 have m1:H1.mine H.len=some (dcC y,0):=by rw [hH1];exact (((Same.refl hSa.wf).add _).mine (by rw [len_add];omega)).trans (mine_add_eq rfl hlim)
 have m2:H1.mine (H.len+1)=some (dcC x,0):=by rw [hH1];exact mine_add_eq (by rw [len_add]) (by rw [lim_add];omega)
 have hHs:=hH1.symm
 clear hH1
 have hw1:=hS1.wf
 have p1:H1.rdn H.len 0 8=some (dcV y):=rdn_mine m1 rfl
 repeat' (first|refine zz6 @g9.eq_1 @RDc @fy @fx @hHs @p1 ?_|(refine zh (fun hc=>?_) (fun hc=>?_)<;>try simp only [yL] at hc))
 refine zm0 (head_ok (wf_up hw1) fy) fun r2 H2 hq=>?_
 obtain ⟨rfl,hS2⟩:=hq
 have hS2:=Same.down hw1 hS2
 generalize H2.down H1.lim=H3 at *
 have m13:=(hS2.mine (mine_lt hw1 m1)).trans m1
 have m23:=(hS2.mine (mine_lt hw1 m2)).trans m2
 have p2:H3.rdn (H.len+1) 0 8=some (dcV x):=rdn_mine m23 rfl
 have hw3:=hS2.wf
 repeat' (first|refine zz3 @g9.eq_1 @RDc @p2 ?_|(refine zh (fun hc=>?_) (fun hc=>?_)<;>try simp only [yL] at hc))
 refine zm0 (head_ok (wf_up hw3) fx) fun r2 H2' hq=>?_
 obtain ⟨rfl,hS4⟩:=hq
 have hS4:=Same.down hw3 hS4
 generalize H2'.down H3.lim=H5 at *
 have m15:=(hS4.mine (mine_lt hw3 m13)).trans m13
 have m25:=(hS4.mine (mine_lt hw3 m23)).trans m23
 have q1:=rd_mine m15
 have q2:=rd_mine m25
 have hS5:=hS1.trans (hS2.trans hS4)
 rw [hh]
 repeat' (first|refine zz5 @g9.eq_1 @RDc @gb_h5 @q1 @q2 ?_|(refine zh (fun hc=>?_) (fun hc=>?_)<;>try simp only [yL] at hc))
 have hw5:=hS5.wf
 have hy5:=hy.later hw hS5
 have hx5:=hx.later hw hS5
 have hrg:=hx5.rg
 rw [← hR] at hrg
 refine zm0 (eqRg_ok hy5.rg.up hrg.up sy.R.1) fun r6 H6 hq=>?_
 obtain ⟨rfl,rfl⟩:=hq
 rw [updown]
 repeat' (first|refine zz4 @g9.eq_1 @RDc @q1 @q2 ?_|(refine zh (fun hc=>?_) (fun hc=>?_)<;>try simp only [yL] at hc))
 refine zm0 (eqEv_ok (wf_up hw5) hy5.ev.up hx5.ev.up hl hl4 sy.E.2 sx.E.2 hE) fun r7 H7 hq=>?_
 obtain ⟨rfl,hS7⟩:=hq
 have hS7:=Same.down hw5 hS7
 generalize H7.down H5.lim=H8 at *
 have q1:=rd_mine ((hS7.mine (mine_lt hw5 m15)).trans m15)
 have q2:=rd_mine ((hS7.mine (mine_lt hw5 m25)).trans m25)
 repeat' (first|refine zz6 @g9.eq_1 @RDc @q1 @q2 @hcy @hcx ?_|(refine zh (fun hc=>?_) (fun hc=>?_)<;>try simp only [yL] at hc))
 refine zm0 (eqCm_ok) fun r9 H9 hq=>?_
 obtain ⟨rfl,rfl⟩:=hq
 rw [updown]
 repeat' (first|refine zz1 @g9.eq_1 ?_|(refine zh (fun hc=>?_) (fun hc=>?_)<;>try simp only [yL] at hc))
 exact hPost _ _ ⟨rfl,hS5.trans hS7⟩
end Go.Gh
end
section
namespace Go.Gh
set_option linter.unusedSimpArgs false
set_option linter.unusedVariables false
set_option maxHeartbeats 4000000
open Go.RowKit
set_option maxRecDepth 4000
def plS (P:List (List UInt8)):ByteArray:=⟨(joinB (P.map strB) ⟨#[10]⟩).toArray⟩
theorem ic_len {s:List UInt8} {B:Nat}:∀ {xs:List (List UInt8)},(∀ x ∈ xs,x.length≤B)→(s.intercalate xs).length≤xs.length * (B+s.length)
 |[],_=>by simp [List.intercalate]
 |[x],h=>by have:=h x (by simp);simp [List.intercalate];omega
 |x :: y :: r,h=>by
  have ih:=ic_len (s:=s) (xs:=y :: r) fun z hz=>h z (by simp [hz])
  have h0:=h x (by simp)
  have e:s.intercalate (x :: y :: r)=x ++ s ++ s.intercalate (y :: r):=by simp [List.intercalate]
  rw [e,List.length_append,List.length_append,List.length_cons,Nat.add_mul]
  omega
theorem fill_s {x:ByteArray}:fillL (List.replicate 1 (.string ⟨#[]⟩)) [(0,1,.string x)]=some [.string x]:=by simp [fillL,Value.cells,flatV]
theorem fill_s' {x:ByteArray}:fillL (zeros [.string ⟨#[]⟩] 1) [(0,1,.string x)]=some [.string x]:=by simp [fillL,zeros,Value.cells,flatV]
theorem join_gev {H:GHeap} {i gc n:Nat} {P:List (List UInt8)} (hn:P.length=n) (hm:H.mine i=some (P.map fun p=>.string (strB p),1)) (h1:1≤n) (h2:n≤100) (hP:∀ p ∈ P,p.length≤10000):
 gev G 103 [.slice (some ⟨i,0,none⟩) n gc,.string ⟨#[10]⟩] H=some (.string (plS P),H):=by
 have hc:H.cs i=some (P.map fun p=>.string (strB p)):=by simp only [GHeap.cs,(mine_obj hm).2]
 obtain ⟨m,rfl⟩:∃ m,n=m+1:=⟨n - 1,by omega⟩
 refine gev_ext (f:=103) rfl ?_
 simp only [runJoin,hc]
 have e:((P.map fun p=>Value.string (strB p)).drop 0).take (m+1)=(P.map strB).map Value.string:=by
  rw [List.drop_zero,List.take_of_length_le (by simp [hn]),List.map_map];rfl
 rw [e,rdS_map]
 simp only
 have hl:(joinB (P.map strB) ⟨#[10]⟩).length≤100 * (10000+1):=by
  have h:=ic_len (s:=[10]) (B:=10000) (xs:=P) hP
  have e2:joinB (P.map strB) ⟨#[10]⟩=List.intercalate [10] P:=by
   unfold joinB Go.Lib.join
   congr 1
   rw [List.map_map]
   have:(fun x:ByteArray=>x.data.toList) ∘ strB=id:=by funext x;simp [strB]
   rw [this,List.map_id]
  rw [e2]
  simp only [List.length_singleton] at h
  have h3:=Nat.mul_le_mul_right (10000+1) (show P.length≤100 by omega)
  exact Nat.le_trans h h3
 rw [if_pos ⟨by simp [hn],by omega,by omega⟩]
 rfl
theorem eplain_ok {H:GHeap} (hw:H.wf) {e:Ev} (hT:TR H e.v e.L) (hs:smE e) (h1:1≤e.L.length) (h4:e.L.length≤4) (hp:∀ l ∈ e.rows,(plainF l).length≤10000):
 ∃ r H',gev G 47 [evV e] H=some (r,H')∧(r=.string (plS (e.rows.map plainF))∧Same H H'):=by
 refine gev_GW (f:=47) rfl fun Post hPost=>?_
 have hlim:=hw.1
 have fe:=ev_cflat hT.rd.flat
 have hsl:=hT.isSl
 simp only [frameOf,Nat.reduceAdd]
 repeat' (first|refine zz4 @g47.eq_1 @RE @fe hsl.len ?_|(refine zh (fun hc=>?_) (fun hc=>?_)<;>try simp only [yL] at hc))
 have hS1:Same H (H.add (some (.cells (evC e) 0 true))):=(Same.refl hw).add _
 generalize H.add (some (.cells (evC e) 0 true))=H1 at *
 have hrl:e.rows.length=e.L.length:=by simp [Ev.rows]
 refine GW_loop (fun k fr K=>∃ (j:Nat) (w:Value),k=e.L.length - j∧j≤e.L.length∧fr.get 3=some (w)∧fr.get 7=some (e.v)∧fr.get 8=some (.int .i64 e.L.length)∧fr.get 9=some (.int .i64 j)∧OS 1 1 H K w j ((e.rows.take j).map fun l=>.string (strB (plainF l)))) ?_ e.L.length ?_
 rotate_left
 ·refine ⟨0,.slice none 0 0,by omega,by omega,?_⟩
  simp only [↓yG,Nat.reduceEqDiff,↓reduceIte,Int.natCast_add,Int.cast_ofNat_Int,Int.natCast_zero,true_and,and_true,Option.some.injEq,Value.int.injEq]
  exact OS.nil hS1
 rintro k fr K ⟨j,w,rfl,hj,f3,f7,f8,f9,hO⟩ J hJ
 have hS:=hO.same
 have hwK:=hS.wf
 have hlimK:=hwK.1
 by_cases hj1:j < e.L.length
 case neg=>
  obtain rfl:j=e.L.length:=by omega
  rw [List.take_of_length_le (by omega)] at hO
  have k103:∃ r H',gev G 103 [w,.string ⟨#[10]⟩] K=some (r,H')∧(r=.string (plS (e.rows.map plainF))∧H'=K):=by
   rcases hO.own.at_ with ⟨_,h0⟩|⟨i,gc,rfl,_,hm⟩
   ·omega
   ·refine ⟨_,_,join_gev (P:=e.rows.map plainF) (by rw [List.length_map,hrl]) (by rw [List.map_map];exact hm) h1 (by omega) (fun p hp'=>?_),rfl,rfl⟩
    obtain ⟨l,hl,rfl⟩:=List.mem_map.1 hp'
    exact hp l hl
  repeat' (first|(exfalso;omega)|refine zz5 @g47.eq_1 @f3 @f7 @f8 @f9 ?_|(refine zh (fun hc=>?_) (fun hc=>?_)<;>try simp only [yL] at hc))
  refine zc1 @f3 (k103) fun r1 H2 hq=>?_
  obtain ⟨rfl,rfl⟩:=hq
  repeat' (first|refine zz2 @g47.eq_1 @f3 ?_|(refine zh (fun hc=>?_) (fun hc=>?_)<;>try simp only [yL] at hc))
  exact hPost _ _ ⟨rfl,hS⟩
 obtain ⟨e1,_,r1⟩:=(hT.later hw hS).row hj1
 have hsm:=hs.2.2.2.2 _ (bang_mem hj1)
 have htk:(e.rows.take (j+1)).map (fun l=>Value.string (strB (plainF l)))=(e.rows.take j).map (fun l=>Value.string (strB (plainF l))) ++ [.string (strB (plainF e.L[j]!.2))]:=by
  rw [take_bang (by omega),List.map_append]
  congr 2
  rw [getElem!_pos e.rows j (by omega),getElem!_pos e.L j hj1]
  simp [Ev.rows]
 have hrow:∀ x,rowV x=.agg [x].toArray:=fun _=>rfl
 generalize e.L[j]!.1=w0 at *
 generalize e.L[j]!.2=l0 at *
 have hf:=r1.flat
 have hst:=gst_add hwK (n:=1) (z:=[.slice none 0 0]) (u:=0) (vs:=#[w0]) rfl rfl (by simp [hf])
 obtain ⟨H2,hH2⟩:∃ H2,H2=(K.add (some (.cells [.slice none 0 0] 0 true))).put K.len (.cells [w0] 0 true):=⟨_,rfl⟩
 have hS12:Same K H2:=hH2 ▸ (Same.refl hwK).new _ _
 have m5:H2.mine K.len=some ([w0],0):=by rw [hH2,mine_put_same (by rw [lim_add];exact hlimK)]
 rw [← hH2] at hst
 clear hH2
 have hw2:=hS12.wf
 have p5:H2.rdn K.len 0 1=some (rowV w0):=rdn_mine m5 rfl
 repeat' (first|(exfalso;omega)|refine zz11 @g47.eq_1 @f3 @f7 @f8 @f9 hsl.ix @Nat.mul_one @e1 @hrow @hst @p5 ?_|(refine zh (fun hc=>?_) (fun hc=>?_)<;>try simp only [yL] at hc))
 have htot:=smR_tot hsm
 have ht2:tot l0≤1099511627776:=Nat.le_trans htot (Nat.mul_le_mul_right 1048576 hsm.1)
 refine zc1 @hrow (plain_ok hw2 (r1.later hwK hS12) (by have:=hsm.1;omega) (by omega)) fun r7 H7 hq=>?_
 obtain ⟨rfl,hS7⟩:=hq
 have hO7:=hO.later (hS12.trans hS7)
 have hw7:=hS7.wf
 have hlim7:=hw7.1
 obtain ⟨w',H8,e8,hO8,_⟩:=hO7.app1 (by decide) (by decide) (news:=[.string (strB (plainF l0))]) rfl (b:=16) (by omega) (by omega)
 repeat' (first|refine zz8 @g47.eq_1 @f3 @f7 @f8 @f9 @fill_s @fill_s' @e8 ?_|(refine zh (fun hc=>?_) (fun hc=>?_)<;>try simp only [yL] at hc))
 refine hJ _ _ ⟨e.L.length - (j+1),by omega,j+1,w',rfl,by omega,?_⟩
 simp only [↓yG,Nat.reduceEqDiff,↓reduceIte,Int.natCast_add,Int.cast_ofNat_Int,Int.natCast_zero,true_and,and_true,Option.some.injEq,Value.int.injEq,f7,f8]
 rw [htk];exact hO8
end Go.Gh
end
section
namespace Go.Gh
set_option linter.unusedSimpArgs false
set_option linter.unusedVariables false
set_option maxHeartbeats 4000000
open Go.RowKit
set_option maxRecDepth 4000
structure TxE (a b:Ev):Prop where
 i:b.i=a.i
 o:b.o=a.o
 p:b.rows.map plainF=a.rows.map plainF
 a1:1≤a.L.length∧a.L.length≤4
 b1:1≤b.L.length∧b.L.length≤4
 pa:∀ l ∈ a.rows,(plainF l).length≤10000
 pb:∀ l ∈ b.rows,(plainF l).length≤10000
theorem gb_ss {e:Option EqK} {x:ByteArray}:gbin .neq e (.string x) (.string x)=some (.bool false):=by simp [gbin,gstr]
theorem texts_ok {H:GHeap} (hw:H.wf) {y d:Dc} (hy:DcR H y) (hd:DcR H d) (sy:SmD y) (sd:SmD d) (hl:d.E.length=y.E.length) (h:∀ j,j < y.E.length→TxE y.E[j]! d.E[j]!):
 ∃ r H',gev G 14 [dcV y,dcV d] H=some (r,H')∧(r=.bool true∧Same H H'):=by
 refine gev_GW (f:=14) rfl fun Post hPost=>?_
 have hlim:=hw.1
 have fy:=dc_cflat hy
 have hEl:=sy.E.1
 have fd:=dc_cflat hd
 have hs1:=hy.ev.rd.rd.isSl
 have hs2:=hd.ev.rd.rd.isSl
 rw [hl] at hs2
 simp only [frameOf,Nat.reduceAdd]
 obtain ⟨H1,hH1⟩:∃ H1,H1=(H.add (some (.cells (dcC y) 0 true))).add (some (.cells (dcC d) 0 true)):=⟨_,rfl⟩
 have hSa:Same H (H.add (some (.cells (dcC y) 0 true))):=(Same.refl hw).add _
 have hS1:Same H H1:=hH1 ▸ hSa.add _
 have m1:H1.mine H.len=some (dcC y,0):=by rw [hH1];exact (((Same.refl hSa.wf).add _).mine (by rw [len_add];omega)).trans (mine_add_eq rfl hlim)
 have m2:H1.mine (H.len+1)=some (dcC d,0):=by rw [hH1];exact mine_add_eq (by rw [len_add]) (by rw [lim_add];omega)
 have hHs:=hH1.symm
 clear hH1
 have q1:=rd_mine m1
 have q2:=rd_mine m2
 have z0:decide (¬ True)=false:=rfl
 repeat' (first|refine zz10 @g14.eq_1 @RDc @fy @fd @hHs @q1 @q2 hs1.len hs2.len @z0 ?_|(refine zh (fun hc=>?_) (fun hc=>?_)<;>try simp only [yL] at hc))
 refine GW_loop (fun k fr K=>∃ j:Nat,k=y.E.length - j∧j≤y.E.length∧fr.get 3=some (.pointer (some ⟨H.len+1,0,none⟩))∧fr.get 16=some (y.ev)∧fr.get 17=some (.int .i64 y.E.length)∧fr.get 18=some (.int .i64 j)∧Same H1 K) ?_ y.E.length ?_
 rotate_left
 ·refine ⟨0,rfl,by omega,?_⟩
  simp only [↓yG,Nat.reduceEqDiff,↓reduceIte,Int.natCast_add,Int.cast_ofNat_Int,Int.natCast_zero,true_and,and_true,Option.some.injEq,Value.int.injEq]
  exact Same.refl hS1.wf
 rintro k fr K ⟨j,rfl,hj,f3,f16,f17,f18,hS1K⟩ J hJ
 have hS:=hS1.trans hS1K
 have hwK:=hS.wf
 have hlimK:=hwK.1
 by_cases hj1:j < y.E.length
 case neg=>
  repeat' (first|(exfalso;omega)|refine zz5 @g14.eq_1 @f3 @f16 @f17 @f18 ?_|(refine zh (fun hc=>?_) (fun hc=>?_)<;>try simp only [yL] at hc))
  exact hPost _ _ ⟨rfl,hS⟩
 have hyK:=hy.later hw hS
 have hdK:=hd.later hw hS
 have e1:=hyK.ev.rowN hj1
 have e2:=hdK.ev.rowN (k:=j) (by omega)
 have hT1:=hyK.ev.at_ hj1
 have hT2:=hdK.ev.at_ (k:=j) (by omega)
 have sa:=sy.E.2 _ (bang_mem hj1)
 have sb:=sd.E.2 _ (bang_mem (l:=d.E) (j:=j) (by omega))
 have hlt2:blk d.ev < K.len:=hdK.ev.rd.rd.lt (by omega)
 have hq:=h j hj1
 generalize y.E[j]! =a at *
 generalize d.E[j]! =b at *
 have ga:=gsetn_ev (cs:=zEv) (e:=a) rfl hT1.rd.flat
 have gb:=gsetn_ev (cs:=zEv) (e:=b) rfl hT2.rd.flat
 obtain ⟨H2,hH2⟩:∃ Z,Z=(K.add (some (.cells zEv 0 true))).put K.len (.cells (evC a) 0 true):=⟨_,rfl⟩
 have hS2:Same K H2:=hH2 ▸ (Same.refl hwK).new _ _
 have n6:H2.mine K.len=some (evC a,0):=by rw [hH2,mine_put_same (by rw [lim_add];exact hlimK)]
 have hHs2:=hH2.symm
 clear hH2
 have hw2:=hS2.wf
 have hlim2:=hw2.1
 obtain ⟨H3,hH3⟩:∃ Z,Z=(H2.add (some (.cells zEv 0 true))).put H2.len (.cells (evC b) 0 true):=⟨_,rfl⟩
 have hS3:Same H2 H3:=hH3 ▸ (Same.refl hw2).new _ _
 have n7:H3.mine H2.len=some (evC b,0):=by rw [hH3,mine_put_same (by rw [lim_add];exact hlim2)]
 have hHs3:=hH3.symm
 clear hH3
 have q2':=rd_mine ((hS2.mine (Nat.lt_of_lt_of_le (mine_lt hS1.wf m2) hS1K.len)).trans ((hS1K.mine (mine_lt hS1.wf m2)).trans m2))
 have e2':H2.rdn (blk d.ev) (ofs d.ev+j * 7) 7=some (evV b):=by rw [hS2.rdn hlt2];exact e2
 have n63:=(hS3.mine (mine_lt hw2 n6)).trans n6
 have p6:=rdn_ev2m n63
 have p7:=rdn_ev2m n7
 rw [hq.i,hq.o] at p7
 have q6:H3.rdn K.len 0 7=some (evV a):=rdn_mine n63 rfl
 have hw3:=hS3.wf
 have hSK3:=hS2.trans hS3
 repeat' (first|(exfalso;omega)|refine zz19 @g14.eq_1 @f3 @f16 @f17 @f18 hs1.ix hs2.ix @e1 @ga @hHs2 @q2' @RDc @e2' @gb @hHs3 @p6 @p7 @gb_s2n @q6 ?_|(refine zh (fun hc=>?_) (fun hc=>?_)<;>try simp only [yL] at hc))
 refine zm4 @f3 @f16 @f17 @f18 (eplain_ok (wf_up hw3) (hT1.later hwK hSK3).up sa hq.a1.1 hq.a1.2 hq.pa) fun r4 H4 hr=>?_
 obtain ⟨rfl,hS4⟩:=hr
 have hS4:=Same.down hw3 hS4
 generalize H4.down H3.lim=H5 at *
 have q7:H5.rdn H2.len 0 7=some (evV b):=rdn_mine ((hS4.mine (mine_lt hw3 n7)).trans n7) rfl
 have hw5:=hS4.wf
 have hSK5:=hSK3.trans hS4
 repeat' (first|refine zz6 @g14.eq_1 @f3 @f16 @f17 @f18 @q7 ?_|(refine zh (fun hc=>?_) (fun hc=>?_)<;>try simp only [yL] at hc))
 refine zm4 @f3 @f16 @f17 @f18 (eplain_ok (wf_up hw5) (hT2.later hwK hSK5).up sb hq.b1.1 hq.b1.2 hq.pb) fun r6 H6 hr=>?_
 obtain ⟨rfl,hS6⟩:=hr
 have hS6:=Same.down hw5 hS6
 generalize H6.down H5.lim=H7 at *
 rw [hq.p]
 repeat' (first|refine zz6 @g14.eq_1 @f3 @f16 @f17 @f18 @gb_ss ?_|(refine zh (fun hc=>?_) (fun hc=>?_)<;>try simp only [yL] at hc))
 refine hJ _ _ ⟨y.E.length - (j+1),by omega,j+1,rfl,by omega,?_⟩
 simp only [↓yG,Nat.reduceEqDiff,↓reduceIte,Int.natCast_add,Int.cast_ofNat_Int,Int.natCast_zero,true_and,and_true,Option.some.injEq,Value.int.injEq,f3,f16,f17]
 exact hS1K.trans (hSK5.trans hS6)
theorem hspots_ok {H:GHeap} (hw:H.wf) {d:Dc} (hd:DcR H d) (sd:SmD d) {j:Nat} (hj:j < d.E.length) (hp:PlE d.R d.E[j]!):
 ∃ q H',gev G 16 [dcV d,.int .i64 j] H=some (q,H')∧OS 3 3 H H' q (lensE d.E[j]!).length ((List.range (lensE d.E[j]!).length).flatMap (spF (rgO d.R d.E[j]!) (lensE d.E[j]!))):=by
 refine gev_GW (f:=16) rfl fun Post hPost=>?_
 have hlim:=hw.1
 have fd:=dc_cflat hd
 have hsl:=hd.ev.rd.rd.isSl
 have hEl:=sd.E.1
 simp only [frameOf,Nat.reduceAdd]
 have hS1:Same H (H.add (some (.cells (dcC d) 0 true))):=(Same.refl hw).add _
 have m1:(H.add (some (.cells (dcC d) 0 true))).mine H.len=some (dcC d,0):=mine_add_eq rfl hlim
 obtain ⟨H1,hH1⟩:∃ Z,Z=H.add (some (.cells (dcC d) 0 true)):=⟨_,rfl⟩
 rw [← hH1] at hS1 m1
 have hHs:=hH1.symm
 clear hH1
 have q1:=rd_mine m1
 have hd1:=hd.later hw hS1
 have e1:=hd1.ev.rowN hj
 repeat' (first|refine zz7 @g16.eq_1 @RDc @fd @hHs @q1 hsl.ix @e1 ?_|(refine zh (fun hc=>?_) (fun hc=>?_)<;>try simp only [yL] at hc))
 refine zc0 (spots_ok hS1.wf (hd1.ev.at_ hj) (sd.E.2 _ (bang_mem hj)) hd1.rg sd.R.1 hp.sm hp.fd hp.pl) fun r2 H2 hq=>?_
 obtain ⟨s,rfl,hO⟩:=hq
 repeat' (first|refine zz1 @g16.eq_1 ?_|(refine zh (fun hc=>?_) (fun hc=>?_)<;>try simp only [yL] at hc))
 exact hPost _ _ (hO.weaken hS1)
end Go.Gh
end
