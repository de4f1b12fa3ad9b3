/-
  Parts of the proof: walks of the ghost functions and the laws of what they compute. No condition.
-/
import Derived.Test.YtjjcgaompnjbdaaGreatDoorQ9
import Derived.Test.YtjjcgaompnjbdaaGreatDoorQ3
section
namespace Go.Gh
set_option linter.unusedSimpArgs false
set_option linter.unusedVariables false
set_option maxHeartbeats 4000000
open Go.RowKit
set_option maxRecDepth 4000
theorem Hz_cut {call:GCall} {t:Bool} {a a' b:GCode} {ks:List Kt} {R:Fr→GHeap→Prop} {fr fr':Fr} {H H':GHeap} (I:Fr→GHeap→Prop)
 (h:t=true→GW call a (.inv I :: ks) R fr H) (h':t=false→GW call a' (.inv I :: ks) R fr' H') (k:∀ fr H,I fr H→GW call b ks R fr H):
 Hz t (GW call a (.seq b :: ks) R fr H) (GW call a' (.seq b :: ks) R fr' H'):=by
 have key:∀ {c:GCode} {f:Fr} {K:GHeap},GW call c (.inv I :: ks) R f K→GW call c (.seq b :: ks) R f K:=fun {c f K} q=>
  ⟨gwp_mono q.ok fun e f K q=>by cases e with
    |normal=>exact (k f K q).ok
    |_=>exact q⟩
 exact ⟨fun e=>key (h e),fun e=>key (h' e)⟩
theorem rd_mine {H:GHeap} {i u:Nat} {cs:List Value} (h:H.mine i=some (cs,u)) (c:Nat):H.rd i c=cs[c]?:=by
 have:=(mine_obj h).2
 simp only [GHeap.rd,GHeap.cs,this];rfl
theorem rdn_mine {H:GHeap} {i u n:Nat} {cs:List Value} (h:H.mine i=some (cs,u)) (hn:cs.length=n):H.rdn i 0 n=some (.agg cs.toArray):=by
 have:=(mine_obj h).2
 simp only [GHeap.rdn,GHeap.cs,this]
 simp [← hn]
theorem OS.notin {s u n:Nat} {H0 H:GHeap} {v:Value} {xs:List Value} (h:OS s u H0 H v n xs) {i u':Nat} {c:List Value} (hm:H.mine i=some (c,u')) (hu:u≠u'):¬ i ∈ idOf v:=fun hi=>by
 have h1:=(h.ids hi).2.2
 rw [hm] at h1
 simp only [Option.some.injEq,Prod.mk.injEq] at h1
 exact hu h1.2.symm
def Keep (u:Nat) (H H':GHeap):Prop:=∀ i cs u',u'≠u→H.mine i=some (cs,u')→H'.mine i=some (cs,u')
theorem Keep.trans {u:Nat} {H H' H2:GHeap} (h:Keep u H H') (k:Keep u H' H2):Keep u H H2:=fun i cs u' hu hm=>k i cs u' hu (h i cs u' hu hm)
theorem keep_but {s u n:Nat} {H0 H H':GHeap} {v:Value} {xs:List Value} (h:OS s u H0 H v n xs) (hb:But (fun j=>j ∈ idOf v) H H'):Keep u H H':=fun i cs u' hu hm=>by
 rw [hb.mine (mine_lt h.same.wf hm) (h.notin hm hu.symm)];exact hm
theorem ap1 {H0 H:GHeap} {v:Value} {l:List Int} (h:OS 1 257 H0 H v l.length (ints .u8 l)) (c:Int) (hl:l.length≤1000000):
 ∃ v' H',gapp 1 1 257 (H.add (some (.cells [.int .u8 c] 257 true))) v (.slice (some ⟨H.len,0,none⟩) 1 2)=some (v',H')∧OS 1 257 H0 H' v' (l ++ [c]).length (ints .u8 (l ++ [c]))∧Keep 257 H H':=by
 obtain ⟨v',H',e,hO,hB⟩:=h.app1 (by decide) (by decide) (news:=[.int .u8 c]) rfl (b:=1) (by omega) (by omega)
 refine ⟨v',H',e,?_,keep_but h hB⟩
 rw [List.length_append,ints_append];exact hO
theorem apN {H0 H:GHeap} {v x:Value} {l m:List Int} (h:OS 1 257 H0 H v l.length (ints .u8 l)) (hx:GArg1 H 1 x m.length (ints .u8 m)) (hl:l.length≤1000000) (hm:m.length≤1000000):
 ∃ v' H',gapp 1 1 257 H v x=some (v',H')∧OS 1 257 H0 H' v' (l ++ m).length (ints .u8 (l ++ m))∧Keep 257 H H':=by
 obtain ⟨v',H',e,hO,hB⟩:=h.appN (by decide) (by decide) hx (b:=1) (by omega) (by omega)
 refine ⟨v',H',e,?_,keep_but h hB⟩
 rw [List.length_append,ints_append];exact hO
def isI:Option Value→Int→Bool
 |some (.int .u8 a),b=>a == b
 |_,_=>false
theorem isI_eq {x:Option Value} {b:Int} (h:isI x b=true):x=some (.int .u8 b):=by
 cases x with
 |none=>simp [isI] at h
 |some v=>cases v with
  |int k a=>cases k<;>simp_all [isI]
  |_=>simp [isI] at h
theorem all82:((List.range 7).all fun c=>isI ((gbody (gcall G 20 2) 20 g82 [.int .u8 (c:Int)] ⟨.nil,0,0⟩).map (·.1)) (colB c))=true:=by kernel_rfl
theorem col_ok {c:Int} (h:0≤c∧c≤6) (H:GHeap):gev G 82 [.int .u8 c] H=some (.int .u8 (colB c),H):=by
 obtain ⟨n,rfl⟩:∃ n:Nat,c=n:=⟨c.toNat,by omega⟩
 have h1:=List.all_eq_true.1 all82 n (List.mem_range.2 (by omega))
 exact gev_run (f:=82) rfl rfl rfl (isI_eq h1) H
theorem on_ok {b:Bool} {y n:Int} (H:GHeap):gev G 83 [.bool b,.int .u8 y,.int .u8 n] H=some (.int .u8 (if b=true then y else n),H):=by
 refine gev_GWP (f:=83) rfl rfl rfl (fun Post hPost=>?_) H
 simp only [frameOf,Nat.reduceAdd]
 cases b
 ·repeat' (first|refine zz1 @g83.eq_1 ?_|(refine zh (fun hc=>?_) (fun hc=>?_)<;>try simp only [yL] at hc))
  exact hPost _
 ·repeat' (first|refine zz1 @g83.eq_1 ?_|(refine zh (fun hc=>?_) (fun hc=>?_)<;>try simp only [yL] at hc))
  exact hPost _
theorem colOf_yes {c:Int} (h0:0≤c) (h6:c≤6):colOf (colB c)=some c:=by
 have:c=0∨c=1∨c=2∨c=3∨c=4∨c=5∨c=6:=by omega
 rcases this with rfl|rfl|rfl|rfl|rfl|rfl|rfl<;>rfl
theorem colOf_no {b:Int} (h:∀ c,0≤c→c≤6→colB c≠b):colOf b=none:=by
 have h0:(7:Int)≠b:=h 0 (by omega) (by omega)
 have h1:(2:Int)≠b:=h 1 (by omega) (by omega)
 have h2:(4:Int)≠b:=h 2 (by omega) (by omega)
 have h3:(6:Int)≠b:=h 3 (by omega) (by omega)
 have h4:(1:Int)≠b:=h 4 (by omega) (by omega)
 have h5:(3:Int)≠b:=h 5 (by omega) (by omega)
 have h6:(5:Int)≠b:=h 6 (by omega) (by omega)
 unfold colOf
 rw [if_neg (by omega),if_neg (by omega),if_neg (by omega),if_neg (by omega),if_neg (by omega),if_neg (by omega),if_neg (by omega)]
def trV (s:Sy) (b:Int):Value:=.tuple #[syV ((trn s b).getD s),.bool (trn s b).isSome]
theorem sy_s0 {s:Sy} {c:Int}:gset (syC s) 0 (.int .u8 c)=some (syC {s with c:=c}):=gset_ok (by simp [syC]) rfl
theorem sy_s1 {s:Sy} {c:Bool}:gset (syC s) 1 (.bool c)=some (syC {s with i:=c}):=gset_ok (by simp [syC]) rfl
theorem sy_s2 {s:Sy} {c:Bool}:gset (syC s) 2 (.bool c)=some (syC {s with u:=c}):=gset_ok (by simp [syC]) rfl
theorem turn_ok (s:Sy) {b:Int} (hb:0≤b∧b≤255) (H:GHeap):gev G 154 [syV s,.int .u8 b] H=some (trV s b,H):=by
 refine gev_GWP (f:=154) rfl (by simp [syV,litOk,litFlat]) (by simp [trV,litVal,syV,litOk,litFlat]) (fun Post hPost=>?_) H
 have hw:=root_wf
 have hlim:=hw.1
 simp only [frameOf,Nat.reduceAdd]
 have hP:∀ p,trn s b=p→∀ H',Post (.tuple #[syV (p.getD s),.bool p.isSome]) H':=fun p e H'=>by rw [← e];exact hPost H'
 clear hPost
 by_cases h1:b=128∨b=129
 ·have ht:trn s b=some {s with i:=decide (b=128)}:=by unfold trn;rw [if_pos h1]
  by_cases h2:b=128
  ·have d1:decide (b=128)=true:=decide_eq_true h2
   repeat' (first|refine zz4 @g154.eq_1 @RN @d1 @sy_s1 ?_|(refine zh (fun hc=>?_) (fun hc=>?_)<;>try simp only [yL] at hc))
   rw [d1] at ht
   exact hP _ ht _
  ·have d1:decide (b=128)=false:=decide_eq_false h2
   have d2:decide (b=129)=true:=decide_eq_true (by omega)
   repeat' (first|refine zz5 @g154.eq_1 @RN @d1 @d2 @sy_s1 ?_|(refine zh (fun hc=>?_) (fun hc=>?_)<;>try simp only [yL] at hc))
   rw [d1] at ht
   exact hP _ ht _
 have d1:decide (b=128)=false:=decide_eq_false (by omega)
 have d2:decide (b=129)=false:=decide_eq_false (by omega)
 by_cases h3:b=130∨b=131
 ·have ht:trn s b=some {s with u:=decide (b=130)}:=by unfold trn;rw [if_neg h1,if_pos h3]
  by_cases h2:b=130
  ·have d3:decide (b=130)=true:=decide_eq_true h2
   repeat' (first|refine zz6 @g154.eq_1 @RN @d1 @d2 @d3 @sy_s2 ?_|(refine zh (fun hc=>?_) (fun hc=>?_)<;>try simp only [yL] at hc))
   rw [d3] at ht
   exact hP _ ht _
  ·have d3:decide (b=130)=false:=decide_eq_false h2
   have d4:decide (b=131)=true:=decide_eq_true (by omega)
   repeat' (first|refine zz7 @g154.eq_1 @RN @d1 @d2 @d3 @d4 @sy_s2 ?_|(refine zh (fun hc=>?_) (fun hc=>?_)<;>try simp only [yL] at hc))
   rw [d3] at ht
   exact hP _ ht _
 have d3:decide (b=130)=false:=decide_eq_false (by omega)
 have d4:decide (b=131)=false:=decide_eq_false (by omega)
 have ht:trn s b=(colOf b).map fun c=>{s with c:=c}:=by unfold trn;rw [if_neg h1,if_neg h3]
 repeat' (first|refine zz6 @g154.eq_1 @RN @d1 @d2 @d3 @d4 ?_|(refine zh (fun hc=>?_) (fun hc=>?_)<;>try simp only [yL] at hc))
 obtain ⟨K,hK⟩:∃ K,K=(GHeap.add ⟨.nil,0,0⟩ (some (.cells (syC s) 0 true))).add (some (.cells [.int .u8 0,.bool false,.bool false] 0 true)):=⟨_,rfl⟩
 have m0:K.mine 0=some (syC s,0):=by rw [hK,mine_add_ne (by rw [len_add];exact Nat.succ_ne_zero _)];exact mine_add_eq rfl (Nat.le_refl _)
 have m1:K.mine 1=some ([.int .u8 0,.bool false,.bool false],0):=by rw [hK];exact mine_add_eq rfl (Nat.zero_le _)
 rw [← hK]
 clear hK
 refine GW_loop (fun k fr H1=>∃ c:Nat,k=7 - c∧c≤7∧fr.get 1=some (.int .u8 b)∧fr.get 2=some (.pointer (some ⟨0,0,none⟩))∧fr.get 4=some (.pointer (some ⟨1,0,none⟩))∧fr.get 6=some (.int .u8 c)∧H1=K∧∀ x:Int,0≤x→x < c→colB x≠b) ?_ 7 ?_
 case neg.refine_2=>
  refine ⟨0,rfl,by omega,?_⟩
  simp only [↓yG,Nat.reduceEqDiff,↓reduceIte,Int.natCast_add,Int.cast_ofNat_Int,Int.natCast_zero,true_and,and_true,Option.some.injEq,Value.int.injEq]
  intro x h0 h1;omega
 rintro k fr H1 ⟨c,rfl,hc,f1,f2,f4,f6,rfl,hno⟩ J hJ
 have hlim1:H1.lim≤0:=(mine_obj m0).1
 by_cases hc1:c < 7
 ·have k1:=col_ok (c:=(c:Int)) (by omega)
  by_cases he:colB c=b
  ·have d5:decide (colB c=b)=true:=decide_eq_true he
   have hcv:=colOf_yes (c:=(c:Int)) (by omega) (by omega)
   rw [he] at hcv
   rw [hcv] at ht
   repeat' (first|(exfalso;omega)|refine zz12 @g154.eq_1 @RN @RK @f1 @f2 @f4 @f6 @k1 @d5 @m0 @m1 @sy_s0 ?_|(refine zh (fun hc=>?_) (fun hc=>?_)<;>try simp only [yL] at hc))
   exact hP _ ht _
  ·have d5:decide (colB c=b)=false:=decide_eq_false he
   repeat' (first|(exfalso;omega)|refine zz9 @g154.eq_1 @RN @RK @f1 @f2 @f4 @f6 @k1 @d5 ?_|(refine zh (fun hc=>?_) (fun hc=>?_)<;>try simp only [yL] at hc))
   refine hJ _ _ ⟨7 - (c+1),by omega,c+1,rfl,by omega,?_⟩
   simp only [↓yG,Nat.reduceEqDiff,↓reduceIte,Int.natCast_add,Int.cast_ofNat_Int,Int.natCast_zero,true_and,and_true,Option.some.injEq,Value.int.injEq,f1,f2,f4]
   intro x h0 h1
   by_cases hx:x=c
   ·rw [hx];exact he
   ·exact hno x h0 (by omega)
 ·obtain rfl:c=7:=by omega
  have hn:=colOf_no fun x h0 h1=>hno x h0 (by omega)
  rw [hn] at ht
  have p0:H1.rdn 0 0 3=some (syV s):=rdn_mine m0 rfl
  repeat' (first|(exfalso;omega)|refine zz8 @g154.eq_1 @RN @f1 @f2 @f4 @f6 @p0 @m1 ?_|(refine zh (fun hc=>?_) (fun hc=>?_)<;>try simp only [yL] at hc))
  exact hP _ ht _
def plV (r a:Int):Value:=.agg #[.int .i64 r,.int .u8 a]
def rgP (r a:Int):Rg:=⟨[82,UInt8.ofNat (48+r / 10).toNat,UInt8.ofNat (48+r % 10).toNat,if a=1 then 76 else if a=2 then 67 else 82],r,15 - r,0,32,a,false⟩
noncomputable def chk44 (r a:Nat):Bool:=match gbody (gcall G 60 6) 60 g44 [plV (r:Int) (a:Int)] ⟨.nil,0,0⟩ with
 |some (.agg cs,_)=>match cs.toList with
  |[.string s,.int .i64 t,.int .i64 h,.int .i64 l,.int .i64 w,.int .u8 x,.bool b]=>s.data.toList == (rgP r a).nm && t == r && h == 15 - r && l == 0 && w == 32 && x == a && !b
  |_=>false
 |_=>false
set_option maxRecDepth 100000 in
theorem all44:((List.range 15).all fun r=>(List.range 3).all fun a=>chk44 r (a+1))=true:=by kernel_rfl
theorem region_ok {r a:Int} (hr:0≤r∧r < 15) (ha:1≤a∧a≤3) (H:GHeap):gev G 44 [plV r a] H=some (rgV (rgP r a),H):=by
 obtain ⟨n,rfl⟩:∃ n:Nat,r=n:=⟨r.toNat,by omega⟩
 obtain ⟨m,rfl⟩:∃ m:Nat,a=((m+1:Nat):Int):=⟨(a - 1).toNat,by omega⟩
 have h:=List.all_eq_true.1 (List.all_eq_true.1 all44 n (List.mem_range.2 (by omega))) m (List.mem_range.2 (by omega))
 refine gev_run (m:=60) (d:=6) (g:=g44) (v:=rgV (rgP (n:Int) ((m+1:Nat):Int))) rfl (by simp [plV,litOk,litFlat]) (rgV_lit _) ?_ H
 unfold chk44 at h
 split at h
 ·rename_i cs H' e
  rw [e]
  simp only [Option.map_some,Option.some.injEq]
  split at h
  ·rename_i s t hh l w x b e2
   simp only [Bool.and_eq_true,beq_iff_eq,Bool.not_eq_true'] at h
   obtain ⟨⟨⟨⟨⟨⟨h1,h2⟩,h3⟩,h4⟩,h5⟩,h6⟩,h7⟩:=h
   have:cs=#[.string s,.int .i64 t,.int .i64 hh,.int .i64 l,.int .i64 w,.int .u8 x,.bool b]:=by apply Array.ext';exact e2
   rw [this,h2,h3,h4,h5,h6,h7,← strB_of s,h1]
   rfl
  ·cases h
 ·cases h
end Go.Gh
end
section
namespace Go.Gh
set_option linter.unusedSimpArgs false
set_option linter.unusedVariables false
set_option maxHeartbeats 4000000
open Go.RowKit
set_option maxRecDepth 4000
theorem rowB_app:∀ (A B:List SR) (s:Sy),rowB s (A ++ B)=rowB s A ++ rowB (lastS s A) B
 |[],_,_=>rfl
 |x :: A,B,s=>by simp only [List.cons_append,rowB,lastS,rowB_app A B x.s,List.append_assoc]
theorem lastS_snoc:∀ (A:List SR) (s:Sy) (x:SR),lastS s (A ++ [x])=x.s
 |[],_,_=>rfl
 |y :: A,s,x=>lastS_snoc A y.s x
theorem rowB_take {l:List SR} {i:Nat} (s:Sy) (h:i < l.length):rowB s (l.take (i+1))=rowB s (l.take i) ++ (swB (lastS s (l.take i)) l[i]!.s ++ encA (rns (strB l[i]!.t))):=by
 rw [List.take_succ_eq_append_getElem h,rowB_app,← getElem!_pos l i h];simp [rowB]
theorem lastS_take {l:List SR} {i:Nat} (s:Sy) (h:i < l.length):lastS s (l.take (i+1))=l[i]!.s:=by
 rw [List.take_succ_eq_append_getElem h,lastS_snoc,← getElem!_pos l i h]
theorem rowB_take_le (l:List SR) (i:Nat) (s:Sy):(rowB s (l.take i)).length≤(rowB s l).length:=by
 conv=>rhs;rw [← List.take_append_drop i l,rowB_app,List.length_append]
 omega
theorem txtB_snoc:∀ (L:List (List SR)) (b:Bool) (x:List SR),txtB b (L ++ [x])=txtB b L ++ ((if b=true∨0 < L.length then [138] else []) ++ rowB sy0 x)
 |[],b,x=>by cases b<;>simp [txtB]
 |y :: L,b,x=>by
  have ih:=txtB_snoc L true x
  simp only [List.cons_append,txtB,ih,List.append_assoc,true_or,if_true]
  simp
theorem txtB_take {L:List (List SR)} {j:Nat} (h:j < L.length):txtB false (L.take (j+1))=txtB false (L.take j) ++ ((if 0 < j then [138] else []) ++ rowB sy0 L[j]!):=by
 rw [List.take_succ_eq_append_getElem h,txtB_snoc,← getElem!_pos L j h,List.length_take,Nat.min_eq_left (by omega)]
 simp
theorem rdn_run3m {H:GHeap} {i:Nat} {x:SR} {u:Nat} (h:H.mine i=some (runC x,u)):H.rdn i 1 3=some (syV x.s):=by
 have:=(mine_obj h).2
 simp only [GHeap.rdn,GHeap.cs,this];rfl
theorem gb_neBo {a b:Bool}:gbin .neq (some .bool) (.bool a) (.bool b)=some (.bool (decide (¬ a=b))):=by cases a<;>cases b<;>rfl
theorem text_ok {H:GHeap} (hw:H.wf) {v:Value} {L:List VR'} (hT:TR H v L) (hl:L.length≤4) (hs:∀ x ∈ L,smR x.2) (hG:∀ x ∈ L,RowG x.2):
 ∃ r H',gev G 38 [v] H=some (r,H')∧∃ w,r=.tuple #[w,.int .i64 0]∧OS 1 257 H H' w (txtB false (L.map (·.2))).length (ints .u8 (txtB false (L.map (·.2)))):=by
 refine gev_GW (f:=38) rfl fun Post hPost=>?_
 have hlim:=hw.1
 have hsl:=hT.isSl
 simp only [frameOf,Nat.reduceAdd]
 repeat' (first|refine zz2 @g38.eq_1 hsl.len ?_|(refine zh (fun hc=>?_) (fun hc=>?_)<;>try simp only [yL] at hc))
 refine GW_loop (fun k fr H1=>∃ (j:Nat) (w:Value),k=L.length - j∧j≤L.length∧fr.get 4=some (w)∧fr.get 13=some (v)∧fr.get 14=some (.int .i64 L.length)∧fr.get 15=some (.int .i64 j)∧OS 1 257 H H1 w (txtB false ((L.map (·.2)).take j)).length (ints .u8 (txtB false ((L.map (·.2)).take j)))) ?_ L.length ?_
 case refine_2=>
  refine ⟨0,.slice none 0 0,by omega,by omega,?_⟩
  simp only [↓yG,Nat.reduceEqDiff,↓reduceIte,Int.natCast_add,Int.cast_ofNat_Int,Int.natCast_zero,true_and,and_true,Option.some.injEq,Value.int.injEq]
  simpa [txtB,ints] using OS.nil (s:=1) (u:=257) (Same.refl hw)
 rintro k fr H1 ⟨j,w,rfl,hj,f4,f13,f14,f15,hO⟩ J hJ
 have hS:=hO.same
 have hw1:=hS.wf
 have hlim1:=hw1.1
 have hXl:=txtB_len ((L.map (·.2)).take j) false fun l hl=>by
  obtain ⟨x,hx,rfl⟩:=List.mem_map.1 (List.mem_of_mem_take hl)
  exact hG x hx
 simp only [List.length_take,List.length_map] at hXl
 by_cases hj1:j < L.length
 case neg=>
  obtain rfl:j=L.length:=by omega
  rw [List.take_of_length_le (by simp)] at hO
  repeat' (first|(exfalso;omega)|refine zz5 @g38.eq_1 @f4 @f13 @f14 @f15 ?_|(refine zh (fun hc=>?_) (fun hc=>?_)<;>try simp only [yL] at hc))
  exact hPost _ _ ⟨w,rfl,hO⟩
 obtain ⟨e1,_,r1⟩:=(hT.later hw hS).row hj1
 have r0:=hT.rows _ (bang_mem hj1)
 have hsm:=hs _ (bang_mem hj1)
 have hg:=hG _ (bang_mem hj1)
 have htk:=txtB_take (L:=L.map (·.2)) (j:=j) (by simpa using hj1)
 rw [show (L.map (·.2))[j]! =L[j]!.2 by rw [getElem!_pos _ j (by simpa using hj1),getElem!_pos L j hj1,List.getElem_map]] at htk
 have hrow:∀ x,rowV x=.agg [x].toArray:=fun _=>rfl
 generalize L[j]!.1=w0 at *
 generalize L[j]!.2=l0 at *
 have hf:=r1.flat
 have hst:=gst_add hw1 (n:=1) (z:=[.slice none 0 0]) (u:=0) (vs:=#[w0]) rfl rfl (by simp [hf])
 obtain ⟨H2,hH2⟩:∃ H2,H2=(H1.add (some (.cells [.slice none 0 0] 0 true))).put H1.len (.cells [w0] 0 true):=⟨_,rfl⟩
 have hS12:Same H1 H2:=hH2 ▸ (Same.refl hw1).new _ _
 have m6:H2.mine H1.len=some ([w0],0):=by rw [hH2,mine_put_same (by rw [lim_add];exact hlim1)]
 have b6:H2.rdn H1.len 0 1=some (rowV w0):=rdn_mine m6 rfl
 have hl2:H1.len < H2.len:=by rw [hH2];simp only [len_put,len_add];omega
 rw [← hH2] at hst
 clear hH2
 repeat' (first|(exfalso;omega)|refine zz11 @g38.eq_1 @f4 @f13 @f14 @f15 hsl.ix @Nat.mul_one @e1 @hrow @hst @b6 ?_|(refine zh (fun hc=>?_) (fun hc=>?_)<;>try simp only [yL] at hc))
 refine zc1 @hrow (check_ok hS12.wf (r1.later hw1 hS12) (by have:=hsm.1;omega) (fun x hx=>by have:=hsm.2 x hx;omega)) fun r3 H3 hq=>?_
 obtain ⟨rfl,hS3⟩:=hq
 rw [hg.ok.1]
 have hS13:=hS12.trans hS3
 have m63:H3.mine H1.len=some ([w0],0):=(hS3.mine hl2).trans m6
 have hO3:=(hO.later hS13)
 have hw3:=hO3.same.wf
 have hlim3:=hw3.1
 have hf69:=hg.len
 have hRl:=rowB_len l0 sy0
 have hct:=hg.cnt
 have z0:decide (¬ True)=false:=rfl
 obtain ⟨X,hX⟩:∃ X,X=txtB false ((L.map (·.2)).take j):=⟨_,rfl⟩
 rw [← hX] at hO3 htk hXl
 obtain ⟨w4,H4,e4,hO4,hK4⟩:=ap1 hO3 138 (by omega)
 have hset:(u8s (List.replicate 1 0)).set 0 (.int .u8 138)=[.int .u8 138]:=rfl
 by_cases h0:0 < j
 case' pos=>
  have d0:decide (0 < (j:Int))=true:=decide_eq_true (by omega)
  have m64:=hK4 _ _ _ (by decide) m63
  rw [if_pos h0] at htk
  obtain ⟨Xp,hXp⟩:∃ K,K=X ++ [138]:=⟨_,rfl⟩
  rw [← List.append_assoc,← hXp] at htk
  rw [← hXp] at hO4
  have hXpl:Xp.length≤400:=by rw [hXp,List.length_append];simp;omega
 case' neg=>
  have d0:decide (0 < (j:Int))=false:=decide_eq_false (by omega)
  clear e4 hO4 hK4
  obtain ⟨H4,rfl⟩:∃ K,K=H3:=⟨_,rfl⟩
  obtain ⟨w4,rfl⟩:∃ K,K=w:=⟨_,rfl⟩
  have m64:=m63
  have hO4:OS 1 257 H H4 w4 (X ++ []).length (ints .u8 (X ++ [])):=by rw [List.append_nil];exact hO3
  have e4:=z0
  rw [if_neg h0] at htk
  obtain ⟨Xp,hXp⟩:∃ K,K=X ++ []:=⟨_,rfl⟩
  rw [← List.append_assoc,← hXp] at htk
  rw [← hXp] at hO4
  have hXpl:Xp.length≤400:=by rw [hXp,List.append_nil];omega
 all_goals
  have hw4:=hO4.same.wf
  have hlim4:=hw4.1
  have q6:=rd_mine m64
  have hl64:=mine_lt hw4 m64
  have hr4:=r0.later hw hO4.same
  have hsr:=hr4.isSl
  repeat' (first|(exfalso;omega)|refine zz11 @g38.eq_1 @f4 @f13 @f14 @f15 @z0 @d0 @hset @e4 @q6 hsr.len ?_|(refine zh (fun hc=>?_) (fun hc=>?_)<;>try simp only [yL] at hc))
  have hO5:=hO4.later ((Same.refl hw4).add (.cells [.int .u8 0,.bool false,.bool false] 0 true))
  have m8:(H4.add (some (.cells [.int .u8 0,.bool false,.bool false] 0 true))).mine H4.len=some (syC sy0,0):=mine_add_eq rfl hlim4
  generalize H4.add (some (.cells [.int .u8 0,.bool false,.bool false] 0 true))=H5 at *
  have hn8:H.len≤H4.len:=hO4.same.len
  generalize H4.len=i8 at *
  refine GW_loop (fun k fr H6=>∃ (i:Nat) (w':Value),k=l0.length - i∧i≤l0.length∧fr.get 4=some (w')∧fr.get 8=some (.pointer (some ⟨i8,0,none⟩))∧fr.get 13=some (v)∧fr.get 14=some (.int .i64 L.length)∧fr.get 15=some (.int .i64 j)∧fr.get 31=some (w0)∧fr.get 32=some (.int .i64 l0.length)∧fr.get 33=some (.int .i64 i)∧OS 1 257 H H6 w' (Xp ++ rowB sy0 (l0.take i)).length (ints .u8 (Xp ++ rowB sy0 (l0.take i)))∧H6.mine i8=some (syC (lastS sy0 (l0.take i)),0)) ?_ l0.length ?_
  rotate_left
  ·refine ⟨0,w4,by omega,by omega,?_⟩
   simp only [↓yG,Nat.reduceEqDiff,↓reduceIte,Int.natCast_add,Int.cast_ofNat_Int,Int.natCast_zero,true_and,and_true,Option.some.injEq,Value.int.injEq,f4,f13,f14,f15]
   refine ⟨by simpa [rowB] using hO5,by simpa [lastS] using m8⟩
  rintro k' fr2 H6 ⟨i,w',rfl,hi,g4',g8',g13',g14',g15',g31',g32',g33',hO6,m86⟩ J2 hJ2
  have hw6:=hO6.same.wf
  have hlim6:=hw6.1
  by_cases hi1:i < l0.length
  case neg=>
   obtain rfl:i=l0.length:=by omega
   rw [List.take_of_length_le (Nat.le_refl _)] at hO6
   repeat' (first|(exfalso;omega)|refine zz9 @g38.eq_1 @g4' @g8' @g13' @g14' @g15' @g31' @g32' @g33' ?_|(refine zh (fun hc=>?_) (fun hc=>?_)<;>try simp only [yL] at hc))
   refine hJ _ _ ⟨L.length - (j+1),by omega,j+1,w',rfl,by omega,?_⟩
   simp only [↓yG,Nat.reduceEqDiff,↓reduceIte,Int.natCast_add,Int.cast_ofNat_Int,Int.natCast_zero,true_and,and_true,Option.some.injEq,Value.int.injEq,g4',g13',g14']
   rw [htk];exact hO6
  have r6:=r0.later hw hO6.same
  have e6:=r6.rowN hi1
  have hmem:=bang_mem hi1
  have hcol:=hg.col _ hmem
  have hvx:vR l0[i]! =true:=hg.v _ hmem
  have hxs:=hsm.2 _ hmem
  have hbt:=rowB_take sy0 hi1
  have hla:=lastS_take sy0 hi1
  have hle:=rowB_take_le l0 i sy0
  have hXl6:(Xp ++ rowB sy0 (l0.take i)).length≤600:=by rw [List.length_append];omega
  have hle2:=rowB_take_le l0 (i+1) sy0
  rw [hbt,List.length_append,List.length_append] at hle2
  obtain ⟨Xi,hXi⟩:∃ K,K=Xp ++ rowB sy0 (l0.take i):=⟨_,rfl⟩
  have hnext:Xp ++ rowB sy0 (l0.take (i+1))=Xi ++ (swB (lastS sy0 (l0.take i)) l0[i]!.s ++ encA (rns (strB l0[i]!.t))):=by rw [hbt,hXi,List.append_assoc]
  rw [← hXi] at hO6 hXl6
  generalize lastS sy0 (l0.take i)=nw at *
  generalize l0[i]! =x at *
  obtain ⟨H7,hH7⟩:∃ K,K=(H6.add (some (.cells [.string ⟨#[]⟩,.int .u8 0,.bool false,.bool false,.string ⟨#[]⟩] 0 true))).put H6.len (.cells (runC x) 0 true):=⟨_,rfl⟩
  have hS67:Same H6 H7:=by rw [hH7];exact (Same.refl hw6).new _ _
  have m107:H7.mine H6.len=some (runC x,0):=by rw [hH7,mine_put_same (by rw [lim_add];exact hlim6)]
  have m87:=(hS67.mine (mine_lt hw6 m86)).trans m86
  have hO7:=hO6.later hS67
  have hHs7:=hH7.symm
  clear hH7
  have q8:=rd_mine m87
  have q10:=rd_mine m107
  have d34:decide ((i:Int) < l0.length)=true:=decide_eq_true (by omega)
  obtain ⟨Iv,hIv⟩:∃ Iv:List Int→Fr→GHeap→Prop,Iv=fun X fr K=>∃ w':Value,fr.get 4=some (w')∧fr.get 8=some (.pointer (some ⟨i8,0,none⟩))∧fr.get 10=some (.pointer (some ⟨H6.len,0,none⟩))∧fr.get 13=some (v)∧fr.get 14=some (.int .i64 L.length)∧fr.get 15=some (.int .i64 j)∧fr.get 31=some (w0)∧fr.get 32=some (.int .i64 l0.length)∧fr.get 33=some (.int .i64 i)∧OS 1 257 H K w' X.length (ints .u8 X)∧K.mine i8=some (syC nw,0)∧K.mine H6.len=some (runC x,0):=⟨_,rfl⟩
  have mk:∀ {X:List Int} {fr:Fr} {K:GHeap},(∃ w':Value,fr.get 4=some (w')∧fr.get 8=some (.pointer (some ⟨i8,0,none⟩))∧fr.get 10=some (.pointer (some ⟨H6.len,0,none⟩))∧fr.get 13=some (v)∧fr.get 14=some (.int .i64 L.length)∧fr.get 15=some (.int .i64 j)∧fr.get 31=some (w0)∧fr.get 32=some (.int .i64 l0.length)∧fr.get 33=some (.int .i64 i)∧OS 1 257 H K w' X.length (ints .u8 X)∧K.mine i8=some (syC nw,0)∧K.mine H6.len=some (runC x,0))→Iv X fr K:=fun h=>by rw [hIv];exact h
  have un:∀ {X:List Int} {fr:Fr} {K:GHeap},Iv X fr K→∃ w':Value,fr.get 4=some (w')∧fr.get 8=some (.pointer (some ⟨i8,0,none⟩))∧fr.get 10=some (.pointer (some ⟨H6.len,0,none⟩))∧fr.get 13=some (v)∧fr.get 14=some (.int .i64 L.length)∧fr.get 15=some (.int .i64 j)∧fr.get 31=some (w0)∧fr.get 32=some (.int .i64 l0.length)∧fr.get 33=some (.int .i64 i)∧OS 1 257 H K w' X.length (ints .u8 X)∧K.mine i8=some (syC nw,0)∧K.mine H6.len=some (runC x,0):=fun h=>by rw [hIv] at h;exact h
  clear hIv
  have k82:=col_ok hcol
  refine zz16 @g38.eq_1 @g4' @g8' @g13' @g14' @g15' @g31' @g32' @g33' hsr.ix @e6 @d34 @RN @hHs7 @q10 @q8 ?_
  refine Hz_cut (Iv (Xi ++ (if x.s.c=nw.c then [] else [colB x.s.c]))) (fun hc=>?_) (fun hc=>?_) ?_
  ·have hne:¬ x.s.c=nw.c:=of_decide_eq_true hc
   obtain ⟨wa,Ha,ea,hOa,hKa⟩:=ap1 hO7 (colB x.s.c) (by omega)
   repeat' (first|refine zz16 @g38.eq_1 @g4' @g8' @g13' @g14' @g15' @g31' @g32' @g33' @k82 @RK @q10 @q8 @RN @set1 @ea ?_|(refine zh (fun hc=>?_) (fun hc=>?_)<;>try simp only [yL] at hc))
   refine mk ⟨wa,?_⟩
   simp only [↓yG,Nat.reduceEqDiff,↓reduceIte,Int.natCast_add,Int.cast_ofNat_Int,Int.natCast_zero,true_and,and_true,Option.some.injEq,Value.int.injEq,g4',g8',g13',g14',g15',g31',g32',g33']
   exact ⟨by rw [if_neg hne];exact hOa,hKa _ _ _ (by decide) m87,hKa _ _ _ (by decide) m107⟩
  ·have hne:x.s.c=nw.c:=Decidable.not_not.1 (of_decide_eq_false hc)
   repeat' (first|refine zz9 @g38.eq_1 @g4' @g8' @g13' @g14' @g15' @g31' @g32' @g33' ?_|(refine zh (fun hc=>?_) (fun hc=>?_)<;>try simp only [yL] at hc))
   refine mk ⟨w',?_⟩
   simp only [↓yG,Nat.reduceEqDiff,↓reduceIte,Int.natCast_add,Int.cast_ofNat_Int,Int.natCast_zero,true_and,and_true,Option.some.injEq,Value.int.injEq,g4',g8',g13',g14',g15',g31',g32',g33']
   exact ⟨by rw [if_pos hne,List.append_nil];exact hO7,m87,m107⟩
  rintro fr1 H1 hI
  obtain ⟨w1,b4,b8,b10,b13,b14,b15,b31,b32,b33,hO1,m81,m101⟩:=un hI
  have q8:=rd_mine m81
  have q10:=rd_mine m101
  have hX1:(Xi ++ (if x.s.c=nw.c then [] else [colB x.s.c])).length≤601:=by
   rw [List.length_append]
   have:(if x.s.c=nw.c then ([]:List Int) else [colB x.s.c]).length≤1:=by split<;>simp
   omega
  obtain ⟨X1,hXe1⟩:∃ K,K=Xi ++ (if x.s.c=nw.c then [] else [colB x.s.c]):=⟨_,rfl⟩
  rw [← hXe1] at hO1 hX1
  refine zz14 @g38.eq_1 @b4 @b8 @b10 @b13 @b14 @b15 @b31 @b32 @b33 @q10 @q8 @RN @gb_neBo ?_
  refine Hz_cut (Iv (X1 ++ (if x.s.i=nw.i then [] else [if x.s.i=true then 128 else 129]))) (fun hc=>?_) (fun hc=>?_) ?_
  ·have hne:¬ x.s.i=nw.i:=of_decide_eq_true hc
   obtain ⟨wa,Ha,ea,hOa,hKa⟩:=ap1 hO1 (if x.s.i=true then 128 else 129) (by omega)
   repeat' (first|refine zz17 @g38.eq_1 @b4 @b8 @b10 @b13 @b14 @b15 @b31 @b32 @b33 @on_ok @q10 @q8 @RN @RK @set1 @ea ?_|(refine zh (fun hc=>?_) (fun hc=>?_)<;>try simp only [yL] at hc))
   refine mk ⟨wa,?_⟩
   simp only [↓yG,Nat.reduceEqDiff,↓reduceIte,Int.natCast_add,Int.cast_ofNat_Int,Int.natCast_zero,true_and,and_true,Option.some.injEq,Value.int.injEq,b4,b8,b10,b13,b14,b15,b31,b32,b33]
   exact ⟨by rw [if_neg hne];exact hOa,hKa _ _ _ (by decide) m81,hKa _ _ _ (by decide) m101⟩
  ·have hne:x.s.i=nw.i:=Decidable.not_not.1 (of_decide_eq_false hc)
   repeat' (first|refine zz10 @g38.eq_1 @b4 @b8 @b10 @b13 @b14 @b15 @b31 @b32 @b33 ?_|(refine zh (fun hc=>?_) (fun hc=>?_)<;>try simp only [yL] at hc))
   refine mk ⟨w1,?_⟩
   simp only [↓yG,Nat.reduceEqDiff,↓reduceIte,Int.natCast_add,Int.cast_ofNat_Int,Int.natCast_zero,true_and,and_true,Option.some.injEq,Value.int.injEq,b4,b8,b10,b13,b14,b15,b31,b32,b33]
   exact ⟨by rw [if_pos hne,List.append_nil];exact hO1,m81,m101⟩
  rintro fr2 H2 hI
  obtain ⟨w2,b4,b8,b10,b13,b14,b15,b31,b32,b33,hO2,m82,m102⟩:=un hI
  have q8:=rd_mine m82
  have q10:=rd_mine m102
  have hX2:(X1 ++ (if x.s.i=nw.i then [] else [if x.s.i=true then 128 else 129])).length≤602:=by
   rw [List.length_append]
   have:(if x.s.i=nw.i then ([]:List Int) else [if x.s.i=true then 128 else 129]).length≤1:=by split<;>simp
   omega
  obtain ⟨X2,hXe2⟩:∃ K,K=X1 ++ (if x.s.i=nw.i then [] else [if x.s.i=true then 128 else 129]):=⟨_,rfl⟩
  rw [← hXe2] at hO2 hX2
  refine zz14 @g38.eq_1 @b4 @b8 @b10 @b13 @b14 @b15 @b31 @b32 @b33 @q10 @q8 @RN @gb_neBo ?_
  refine Hz_cut (Iv (X2 ++ (if x.s.u=nw.u then [] else [if x.s.u=true then 130 else 131]))) (fun hc=>?_) (fun hc=>?_) ?_
  ·have hne:¬ x.s.u=nw.u:=of_decide_eq_true hc
   obtain ⟨wa,Ha,ea,hOa,hKa⟩:=ap1 hO2 (if x.s.u=true then 130 else 131) (by omega)
   repeat' (first|refine zz17 @g38.eq_1 @b4 @b8 @b10 @b13 @b14 @b15 @b31 @b32 @b33 @on_ok @q10 @q8 @RN @RK @set1 @ea ?_|(refine zh (fun hc=>?_) (fun hc=>?_)<;>try simp only [yL] at hc))
   refine mk ⟨wa,?_⟩
   simp only [↓yG,Nat.reduceEqDiff,↓reduceIte,Int.natCast_add,Int.cast_ofNat_Int,Int.natCast_zero,true_and,and_true,Option.some.injEq,Value.int.injEq,b4,b8,b10,b13,b14,b15,b31,b32,b33]
   exact ⟨by rw [if_neg hne];exact hOa,hKa _ _ _ (by decide) m82,hKa _ _ _ (by decide) m102⟩
  ·have hne:x.s.u=nw.u:=Decidable.not_not.1 (of_decide_eq_false hc)
   repeat' (first|refine zz10 @g38.eq_1 @b4 @b8 @b10 @b13 @b14 @b15 @b31 @b32 @b33 ?_|(refine zh (fun hc=>?_) (fun hc=>?_)<;>try simp only [yL] at hc))
   refine mk ⟨w2,?_⟩
   simp only [↓yG,Nat.reduceEqDiff,↓reduceIte,Int.natCast_add,Int.cast_ofNat_Int,Int.natCast_zero,true_and,and_true,Option.some.injEq,Value.int.injEq,b4,b8,b10,b13,b14,b15,b31,b32,b33]
   exact ⟨by rw [if_pos hne,List.append_nil];exact hO2,m82,m102⟩
  rintro fr3 H3 hI
  obtain ⟨w3,b4,b8,b10,b13,b14,b15,b31,b32,b33,hO3,m83,m103⟩:=un hI
  have q8:=rd_mine m83
  have q10:=rd_mine m103
  have hX3:(X2 ++ (if x.s.u=nw.u then [] else [if x.s.u=true then 130 else 131])).length≤603:=by
   rw [List.length_append]
   have:(if x.s.u=nw.u then ([]:List Int) else [if x.s.u=true then 130 else 131]).length≤1:=by split<;>simp
   omega
  obtain ⟨X3,hXe3⟩:∃ K,K=X2 ++ (if x.s.u=nw.u then [] else [if x.s.u=true then 130 else 131]):=⟨_,rfl⟩
  rw [← hXe3] at hO3 hX3
  have p3:=rdn_run3m m103
  have q0:H3.rd H6.len 0=some (.string (strB x.t)):=q10 0
  have hi86:=mine_lt hw6 m86
  have hw3':=hO3.same.wf
  obtain ⟨HA,hHA⟩:∃ K,K=H3.put i8 (.cells (syC x.s) 0 true):=⟨_,rfl⟩
  have mA8:HA.mine i8=some (syC x.s,0):=by rw [hHA,mine_put_same (mine_obj m83).1]
  have mA10:HA.mine H6.len=some (runC x,0):=by rw [hHA,mine_put_ne (by omega)];exact m103
  have hOA:OS 1 257 H HA w3 X3.length (ints .u8 X3):=by
   rw [hHA]
   exact hO3.but ((But.refl (S:=fun j=>j=i8) hw3').put rfl (mine_lt hw3' m83) _) (fun j hj e=>by omega) fun a ha e=>hO3.notin m83 (by decide) (e ▸ ha)
  have hHsA:=hHA.symm
  clear hHA
  have qA:HA.rd H6.len 0=some (.string (strB x.t)):=rd_mine mA10 0
  have gs:gsetn (syC nw) 0 3 (syV x.s)=some (syC x.s):=gsetn_sy rfl
  repeat' (first|refine zz15 @g38.eq_1 @b4 @b8 @b10 @b13 @b14 @b15 @b31 @b32 @b33 @p3 @m83 @gs @hHsA @qA ?_|(refine zh (fun hc=>?_) (fun hc=>?_)<;>try simp only [yL] at hc))
  have hsz:=strB_size x.t
  refine zc0 (encode_ok hOA.same.wf (s:=strB x.t) (b:=true) (by omega) (fun H=>by rw [valid_ok (by omega)];unfold vR at hvx;rw [hvx])) fun rB HB hqB=>?_
  obtain ⟨vB,rfl,hOB⟩:=hqB
  simp only [if_true] at hOB
  have hEl:=encA_len (rns (strB x.t))
  have hRn:=rns_len (strB x.t)
  obtain ⟨wC,HC,eC,hOC,hKC⟩:=apN (hOA.later hOB.same) hOB.arg (by omega) (by omega)
  repeat' (first|refine zz11 @g38.eq_1 @b4 @b8 @b10 @b13 @b14 @b15 @b31 @b32 @b33 @eC ?_|(refine zh (fun hc=>?_) (fun hc=>?_)<;>try simp only [yL] at hc))
  refine hJ2 _ _ ⟨l0.length - (i+1),by omega,i+1,wC,rfl,by omega,?_⟩
  simp only [↓yG,Nat.reduceEqDiff,↓reduceIte,Int.natCast_add,Int.cast_ofNat_Int,Int.natCast_zero,true_and,and_true,Option.some.injEq,Value.int.injEq,b8,b13,b14,b15,b31,b32]
  rw [hnext,hla,show Xi ++ (swB nw x.s ++ encA (rns (strB x.t)))=X3 ++ encA (rns (strB x.t)) by rw [hXe3,hXe2,hXe1];simp only [swB,List.append_assoc]]
  exact ⟨hOC,hKC _ _ _ (by decide) ((hOB.same.mine (mine_lt hOA.same.wf mA8)).trans mA8)⟩
end Go.Gh
end
section
namespace Go.Gh
set_option linter.unusedSimpArgs false
set_option linter.unusedVariables false
set_option maxHeartbeats 4000000
open Go.RowKit
set_option maxRecDepth 4000
theorem norm_ok {H:GHeap} (hw:H.wf) {v:Value} {l:List SR} (hv:RR H v l) (hll:l.length≤16777216) (ht:tot l≤70368744177664):
 ∃ r H',gev G 160 [v] H=some (r,H')∧∃ w,r=rowV w∧OR H H' w (normF l):=by
 refine gev_GW (f:=160) rfl fun Post hPost=>?_
 have hlim:=hw.1
 have hsl:=hv.isSl
 simp only [frameOf,Nat.reduceAdd]
 repeat' (first|refine zz2 @g160.eq_1 hsl.len ?_|(refine zh (fun hc=>?_) (fun hc=>?_)<;>try simp only [yL] at hc))
 refine GW_loop (fun k fr H1=>∃ (j:Nat) (w:Value),k=l.length - j∧j≤l.length∧fr.get 2=some (.pointer (some ⟨H.len,0,none⟩))∧fr.get 3=some (.pointer (some ⟨H.len+1,0,none⟩))∧fr.get 7=some (v)∧fr.get 8=some (.int .i64 l.length)∧fr.get 9=some (.int .i64 j)∧H1.mine H.len=some ([.slice none 0 0],0)∧H1.mine (H.len+1)=some ([w],0)∧OR H H1 w (normF (l.take j))) ?_ l.length ?_
 case refine_2=>
  refine ⟨0,.slice none 0 0,by omega,by omega,?_⟩
  simp only [↓yG,Nat.reduceEqDiff,↓reduceIte,Int.natCast_add,Int.cast_ofNat_Int,Int.natCast_zero,true_and,and_true,Option.some.injEq,Value.int.injEq]
  refine ⟨?_,?_,OS.nil (((Same.refl hw).add _).add _)⟩
  ·rw [mine_add_ne (by rw [len_add];omega),mine_add_eq rfl hlim]
  ·rw [mine_add_eq (by rw [len_add]) (by rw [lim_add];omega)]
 rintro k fr H1 ⟨j,w,rfl,hj,f2,f3,f7,f8,f9,m2,m3,hO⟩ J hJ
 have hS:=hO.same
 have hw1:=hS.wf
 have hlim1:=hw1.1
 have hl2:=mine_lt hw1 m2
 have hl3:=mine_lt hw1 m3
 have hnt:=normF_tot (l.take j)
 have htl:=tot_le l j
 rw [List.length_take] at hnt
 generalize hout:normF (l.take j)=out at *
 have hso:=hO.rr.isSl
 by_cases hj1:j < l.length
 ·have e1:=(hv.later hw hS).rowN hj1
  have htk:=tot_take l hj1
  have htl2:=tot_le l (j+1)
  have hstep:normF (l.take (j+1))=pushN out l[j]!:=by rw [normF_take hj1,hout]
  generalize hx:l[j]! =x at *
  have r3:H1.rd (H.len+1) 0=some w:=mine_rd m3
  obtain ⟨H2,hH2⟩:∃ H2,H2=(H1.add (some (.cells [.string ⟨#[]⟩,.int .u8 0,.bool false,.bool false,.string ⟨#[]⟩] 0 true))).put H1.len (.cells (runC x) 0 true):=⟨_,rfl⟩
  have hS12:Same H1 H2:=hH2 ▸ (Same.refl hw1).new _ _
  have hl2':H2.len=H1.len+1:=by rw [hH2,len_put,len_add]
  have hO2:=hO.later hS12
  have m2':H2.mine H.len=some ([.slice none 0 0],0):=by rw [hS12.mine hl2];exact m2
  have m3':H2.mine (H.len+1)=some ([w],0):=by rw [hS12.mine hl3];exact m3
  have x5:H2.rdn H1.len 0 5=some (runV x):=by rw [hH2,rdn_runp]
  have x0:H2.rd H1.len 0=some (.string (strB x.t)):=by rw [hH2,rd_put_same];rfl
  have r3':H2.rd (H.len+1) 0=some w:=mine_rd m3'
  have hw2:=hS12.wf
  have hlim2:=hw2.1
  repeat' (first|(exfalso;omega)|refine zz11 @g160.eq_1 @f2 @f3 @f7 @f8 @f9 @RN hsl.ix @e1 @r3 hso.len ?_|(refine zh (fun hc=>?_) (fun hc=>?_)<;>try simp only [yL] at hc))
  case pos.refine_1.refine_1=>
   rw [← hH2]
   refine hJ _ _ ⟨l.length - (j+1),by omega,j+1,w,rfl,by omega,?_⟩
   simp only [↓yG,Nat.reduceEqDiff,↓reduceIte,Int.natCast_add,Int.cast_ofNat_Int,Int.natCast_zero,true_and,and_true,Option.some.injEq,Value.int.injEq,f2,f3,f7,f8]
   refine ⟨m2',m3',?_⟩
   rw [hstep,pushN,if_pos hc]
   exact hO2
  case pos.refine_1.refine_2.refine_1=>
   rw [← hH2]
   have hn1:((out.length:Int) - 1).toNat=out.length - 1:=by omega
   have e2:H2.rdn (blk w) (ofs w+(out.length - 1) * 5) 5=some (runV (lastR out)):=(OR.rr hO2).rowN (k:=out.length - 1) (by omega)
   have e3:H2.rd (blk w) (ofs w+(out.length - 1) * 5)=some (.string (strB (lastR out).t)):=by
    have:=(OR.rr hO2).row (k:=out.length - 1) (c:=0) (by omega) (by decide)
    exact this
   repeat' (first|(exfalso;omega)|refine zz12 @g160.eq_1 @f2 @f3 @f7 @f8 @f9 @RN @r3' hso.ix @hn1 @e2 @x5 ?_|(refine zh (fun hc=>?_) (fun hc=>?_)<;>try simp only [yL] at hc))
   refine zc6 @f2 @f3 @f7 @f8 @f9 @RN (one_of (alike_ok (lastR out) x _)) fun r4 H4 hq=>?_
   obtain ⟨rfl,rfl⟩:=hq
   cases hal:alikeF (lastR out) x with
   |true=>
    have hadd:=fun e=>gb_addB (e:=e) (a:=(lastR out).t) (b:=x.t) (by have:=last_le (l:=out) (by omega);omega)
    obtain ⟨H5,e5,hO5,hB5⟩:=OR.setT hO2 (k:=out.length - 1) (by omega) ((lastR out).t ++ x.t)
    repeat' (first|(exfalso;omega)|refine zz17 @g160.eq_1 @f2 @f3 @f7 @f8 @f9 @RN @r3' hso.ix @hn1 @e2 @e3 @x5 @x0 @hadd @e5 @Nat.add_zero ?_|(refine zh (fun hc=>?_) (fun hc=>?_)<;>try simp only [yL] at hc))
    have hn3:¬ (H.len+1) ∈ idOf w:=fun ha=>by
     have:=(hO2.ids ha).2.2
     rw [m3'] at this
     simp at this
    have hn2:¬ H.len ∈ idOf w:=fun ha=>by
     have:=(hO2.ids ha).2.2
     rw [m2'] at this
     simp at this
    refine hJ _ _ ⟨l.length - (j+1),by omega,j+1,w,rfl,by omega,?_⟩
    simp only [↓yG,Nat.reduceEqDiff,↓reduceIte,Int.natCast_add,Int.cast_ofNat_Int,Int.natCast_zero,true_and,and_true,Option.some.injEq,Value.int.injEq,f2,f3,f7,f8]
    refine ⟨by rw [hB5.mine (by omega) hn2];exact m2',by rw [hB5.mine (by omega) hn3];exact m3',?_⟩
    rw [hstep,pushN,if_neg (by assumption),if_pos ⟨by omega,hal⟩]
    exact hO5
   |false=>
    repeat' (first|(exfalso;omega)|refine zz9 @g160.eq_1 @f2 @f3 @f7 @f8 @f9 @RN @r3' @x5 ?_|(refine zh (fun hc=>?_) (fun hc=>?_)<;>try simp only [yL] at hc))
    have hxt:¬ x.t=[]:=by assumption
    have hpp:¬ (0 < out.length∧alikeF (lastR out) x=true):=fun h=>by rw [hal] at h;simp at h
    refine Gw_s fun K' hK'=>?_
    simp (disch:=first|exact zd|fail) only [↓yS,yT,↓reduceIte,Nat.reduceEqDiff,Nat.reduceAdd,Nat.reduceMul,reduceCtorEq,Int.reduceToNat,f2,f3,f7,f8,f9]
    obtain ⟨w',H5,e,hO5,hB5⟩:=OS.app1 hO2 (by decide) (by decide) (news:=runC x) rfl (b:=40) (by omega) (by omega)
    refine G1_eq e (hK' _ _ ?_)
    clear hK' K' e
    have hO5':OR H H5 w' (out ++ [x]):=by
     have e1:RunsC (out ++ [x])=RunsC out ++ runC x:=by simp [RunsC]
     have e2:(out ++ [x]).length=out.length+1:=by simp
     unfold OR
     rw [e1,e2];exact hO5
    have hn3:¬ (H.len+1) ∈ idOf w:=fun ha=>by
     have:=(hO2.ids ha).2.2
     rw [m3'] at this
     simp at this
    have hn2:¬ H.len ∈ idOf w:=fun ha=>by
     have:=(hO2.ids ha).2.2
     rw [m2'] at this
     simp at this
    have m2a:H5.mine H.len=some ([.slice none 0 0],0):=by rw [hB5.mine (by omega) hn2];exact m2'
    have m3a:H5.mine (H.len+1)=some ([w],0):=by rw [hB5.mine (by omega) hn3];exact m3'
    have hw5:=hO5.same.wf
    have hst:gst none H5 (.pointer (some ⟨H.len+1,0,none⟩)) w'=some (H5.put (H.len+1) (.cells [w'] 0 true)):=by
     rw [gst_1,m3a,Option.bind_some,gset_ok (by simp) hO5'.flat];rfl
    have hB6:But (fun z=>z=H.len+1) H5 (H5.put (H.len+1) (.cells [w'] 0 true)):=(But.refl (S:=fun z=>z=H.len+1) hw5).put rfl (mine_lt hw5 m3a) _
    have hO6:OR H (H5.put (H.len+1) (.cells [w'] 0 true)) w' (out ++ [x]):=hO5'.but hB6 (fun z hz e2=>by omega) fun a ha e2=>by
     have:=(hO5'.ids ha).2.2
     rw [e2,m3a] at this
     simp at this
    repeat' (first|(exfalso;omega)|refine zz7 @g160.eq_1 @f2 @f3 @f7 @f8 @f9 @hst ?_|(refine zh (fun hc=>?_) (fun hc=>?_)<;>try simp only [yL] at hc))
    refine hJ _ _ ⟨l.length - (j+1),by omega,j+1,w',rfl,by omega,?_⟩
    simp only [↓yG,Nat.reduceEqDiff,↓reduceIte,Int.natCast_add,Int.cast_ofNat_Int,Int.natCast_zero,true_and,and_true,Option.some.injEq,Value.int.injEq,f2,f3,f7,f8]
    refine ⟨by rw [mine_put_ne (by omega)];exact m2a,mine_put_same (mine_obj m3a).1,?_⟩
    rw [hstep,pushN,if_neg hxt,if_neg hpp]
    exact hO6
  case pos.refine_1.refine_2.refine_2=>
   rw [← hH2]
   have hxt:¬ x.t=[]:=by assumption
   have hpp:¬ (0 < out.length∧alikeF (lastR out) x=true):=fun h=>by omega
   have hl4:H1.len+1=H2.len:=hl2'.symm
   rw [hl4]
   refine Gw_s fun K' hK'=>?_
   simp (disch:=first|exact zd|fail) only [↓yS,yT,↓reduceIte,Nat.reduceEqDiff,Nat.reduceAdd,Nat.reduceMul,reduceCtorEq,Int.reduceToNat,f2,f3,f7,f8,f9]
   obtain ⟨w',H5,e,hO5,hB5⟩:=OS.app1 hO2 (by decide) (by decide) (news:=runC x) rfl (b:=40) (by omega) (by omega)
   refine G1_eq e (hK' _ _ ?_)
   clear hK' K' e
   have hO5':OR H H5 w' (out ++ [x]):=by
    have e1:RunsC (out ++ [x])=RunsC out ++ runC x:=by simp [RunsC]
    have e2:(out ++ [x]).length=out.length+1:=by simp
    unfold OR
    rw [e1,e2];exact hO5
   have hn3:¬ (H.len+1) ∈ idOf w:=fun ha=>by
    have:=(hO2.ids ha).2.2
    rw [m3'] at this
    simp at this
   have hn2:¬ H.len ∈ idOf w:=fun ha=>by
    have:=(hO2.ids ha).2.2
    rw [m2'] at this
    simp at this
   have m2a:H5.mine H.len=some ([.slice none 0 0],0):=by rw [hB5.mine (by omega) hn2];exact m2'
   have m3a:H5.mine (H.len+1)=some ([w],0):=by rw [hB5.mine (by omega) hn3];exact m3'
   have hw5:=hO5.same.wf
   have hst:gst none H5 (.pointer (some ⟨H.len+1,0,none⟩)) w'=some (H5.put (H.len+1) (.cells [w'] 0 true)):=by
    rw [gst_1,m3a,Option.bind_some,gset_ok (by simp) hO5'.flat];rfl
   have hB6:But (fun z=>z=H.len+1) H5 (H5.put (H.len+1) (.cells [w'] 0 true)):=(But.refl (S:=fun z=>z=H.len+1) hw5).put rfl (mine_lt hw5 m3a) _
   have hO6:OR H (H5.put (H.len+1) (.cells [w'] 0 true)) w' (out ++ [x]):=hO5'.but hB6 (fun z hz e2=>by omega) fun a ha e2=>by
    have:=(hO5'.ids ha).2.2
    rw [e2,m3a] at this
    simp at this
   repeat' (first|(exfalso;omega)|refine zz7 @g160.eq_1 @f2 @f3 @f7 @f8 @f9 @hst ?_|(refine zh (fun hc=>?_) (fun hc=>?_)<;>try simp only [yL] at hc))
   refine hJ _ _ ⟨l.length - (j+1),by omega,j+1,w',rfl,by omega,?_⟩
   simp only [↓yG,Nat.reduceEqDiff,↓reduceIte,Int.natCast_add,Int.cast_ofNat_Int,Int.natCast_zero,true_and,and_true,Option.some.injEq,Value.int.injEq,f2,f3,f7,f8]
   refine ⟨by rw [mine_put_ne (by omega)];exact m2a,mine_put_same (mine_obj m3a).1,?_⟩
   rw [hstep,pushN,if_neg hxt,if_neg hpp]
   exact hO6
 ·obtain rfl:j=l.length:=by omega
  rw [List.take_length] at hout
  have r3:H1.rd (H.len+1) 0=some w:=mine_rd m3
  have hrw:H1.rdn (H.len+1) 0 1=some (rowV w):=by
   simp only [GHeap.rdn,mine_cs m3,Option.bind_some];rfl
  have hgs:gsetn [.slice none 0 0] 0 1 (rowV w)=some [w]:=gsetn_all rfl rfl (by simpa using hO.flat)
  have hst:gst (some 1) H1 (.pointer (some ⟨H.len,0,none⟩)) (rowV w)=some (H1.put H.len (.cells [w] 0 true)):=by
   rw [gst_n,m2,Option.bind_some,hgs];rfl
  have hB6:But (fun z=>z=H.len) H1 (H1.put H.len (.cells [w] 0 true)):=(But.refl (S:=fun z=>z=H.len) hw1).put rfl hl2 _
  have hO6:OR H (H1.put H.len (.cells [w] 0 true)) w out:=hO.but hB6 (fun z hz e2=>by omega) fun a ha e2=>by
   have:=(hO.ids ha).2.2
   rw [e2,m2] at this
   simp at this
  have hrr:(H1.put H.len (.cells [w] 0 true)).rdn H.len 0 1=some (rowV w):=rdn_put_all rfl
  repeat' (first|(exfalso;omega)|refine zz9 @g160.eq_1 @f2 @f3 @f7 @f8 @f9 @hrw @hst @hrr ?_|(refine zh (fun hc=>?_) (fun hc=>?_)<;>try simp only [yL] at hc))
  exact hPost _ _ ⟨w,rfl,hout ▸ hO6⟩
theorem Norm_ok {H:GHeap} (hw:H.wf) {v:Value} {l:List SR} (hv:RR H v l) (hll:l.length≤16777216) (ht:tot l≤70368744177664):
 ∃ r H',gev G 101 [rowV v] H=some (r,H')∧∃ w,r=rowV w∧OR H H' w (normF l):=by
 refine gev_GW (f:=101) rfl fun Post hPost=>?_
 have hlim:=hw.1
 have hf:=hv.flat
 simp only [frameOf,Nat.reduceAdd]
 repeat' (first|refine zz5 @g101.eq_1 @rowV_eq @agg_all @agg_list @hf ?_|(refine zh (fun hc=>?_) (fun hc=>?_)<;>try simp only [yL] at hc))
 have hS:Same H ((H.add (some (.cells [v] 0 true))).add (some (.cells [.slice none 0 0] 0 true))):=((Same.refl hw).add _).add _
 refine zc0 (norm_ok hS.wf (hv.later hw hS) hll ht) fun r1 H1 hq=>?_
 obtain ⟨w,rfl,hO⟩:=hq
 have m2:H1.mine (H.len+1)=some ([.slice none 0 0],0):=by
  rw [hO.same.mine (by rw [len_add,len_add];omega),mine_add_eq (by rw [len_add]) (by rw [lim_add];omega)]
 obtain ⟨h1,h2,h3⟩:=(hO.weaken hS).res m2 rfl (by omega)
 repeat' (first|refine zz3 @g101.eq_1 @h1 @h3 ?_|(refine zh (fun hc=>?_) (fun hc=>?_)<;>try simp only [yL] at hc))
 exact hPost _ _ ⟨w,rfl,h2⟩
theorem equalR_ok {H:GHeap} (hw:H.wf) {a b:Value} {A B:List SR} (ha:RR H a A) (hb:RR H b B) (hla:A.length≤4611686018427387904) (hlb:B.length≤4611686018427387904):
 ∃ r H',gev G 173 [a,b] H=some (r,H')∧(r=.bool (decide (A=B))∧H'=H):=by
 refine gev_GW (f:=173) rfl fun Post hPost=>?_
 have hsa:=ha.isSl
 have hsb:=hb.isSl
 simp only [frameOf,Nat.reduceAdd]
 repeat' (first|refine zz3 @g173.eq_1 hsa.len hsb.len ?_|(refine zh (fun hc=>?_) (fun hc=>?_)<;>try simp only [yL] at hc))
 case refine_1=>exact hPost _ _ ⟨by rw [decide_eq_false fun e=>hc (by rw [e])],rfl⟩
 have hlen:A.length=B.length:=by omega
 refine GW_loop (fun k fr H1=>∃ (j:Nat),k=A.length - j∧j≤A.length∧fr.get 0=some (a)∧fr.get 1=some (b)∧fr.get 12=some (.int .i64 A.length)∧fr.get 13=some (.int .i64 j)∧H1=H∧A.take j=B.take j) ?_ A.length ?_
 case refine_2.refine_2=>
  refine ⟨0,by omega,by omega,?_⟩
  simp only [↓yG,Nat.reduceEqDiff,↓reduceIte,Int.natCast_add,Int.cast_ofNat_Int,Int.natCast_zero,true_and,and_true,Option.some.injEq,Value.int.injEq]
  simp
 rintro k fr H1 ⟨j,rfl,hj,f0,f1,f12,f13,rfl,hte⟩ J hJ
 by_cases hj1:j < A.length
 ·have e1:=ha.rowN hj1
  have e2:=hb.rowN (k:=j) (by omega)
  have hq:=fun a b=>gb_neR (a:=a) (b:=b)
  unfold qRun at hq
  have hmem:∀ (e:A[j]! =B[j]!),A.take (j+1)=B.take (j+1):=fun e=>by
   rw [List.take_succ_eq_append_getElem hj1,List.take_succ_eq_append_getElem (by omega),hte,← getElem!_pos A j hj1,← getElem!_pos B j (by omega),e]
  repeat' (first|(exfalso;omega)|refine zz10 @g173.eq_1 @f0 @f1 @f12 @f13 hsa.ix hsb.ix @e1 @e2 @hq ?_|(refine zh (fun hc=>?_) (fun hc=>?_)<;>try simp only [yL] at hc))
  case pos.refine_1.refine_1=>
   refine hPost _ _ ⟨?_,rfl⟩
   rw [decide_eq_false fun e=>hc (by rw [e])]
  case pos.refine_1.refine_2=>
   refine hJ _ _ ⟨A.length - (j+1),by omega,j+1,rfl,by omega,?_⟩
   simp only [↓yG,Nat.reduceEqDiff,↓reduceIte,Int.natCast_add,Int.cast_ofNat_Int,Int.natCast_zero,true_and,and_true,Option.some.injEq,Value.int.injEq,f0,f1,f12]
   exact hmem hc
 ·obtain rfl:j=A.length:=by omega
  have heq:A=B:=by
   have e2:B.take A.length=B:=List.take_of_length_le (by omega)
   rw [List.take_length,e2] at hte
   exact hte
  rw [decide_eq_true heq] at hPost
  repeat' (first|(exfalso;omega)|refine zz5 @g173.eq_1 @f0 @f1 @f12 @f13 ?_|(refine zh (fun hc=>?_) (fun hc=>?_)<;>try simp only [yL] at hc))
  exact hPost _ _ ⟨rfl,rfl⟩
theorem same_ok {H:GHeap} (hw:H.wf) {a b:Value} {A B:List SR} (ha:RR H a A) (hb:RR H b B) (hla:A.length≤4611686018427387904) (hlb:B.length≤4611686018427387904):
 ∃ r H',gev G 131 [rowV a,rowV b] H=some (r,H')∧(r=.bool (decide (A=B))∧Same H H'):=by
 refine gev_GW (f:=131) rfl fun Post hPost=>?_
 have hlim:=hw.1
 have hfa:=ha.flat
 have hfb:=hb.flat
 have hra:rowV a=.agg [a].toArray:=rfl
 have hrb:rowV b=.agg [b].toArray:=rfl
 simp only [frameOf,Nat.reduceAdd]
 repeat' (first|refine zz7 @g131.eq_1 @hra @hrb @agg_all @agg_list @hfa @hfb ?_|(refine zh (fun hc=>?_) (fun hc=>?_)<;>try simp only [yL] at hc))
 have hS:Same H ((H.add (some (.cells [a] 0 true))).add (some (.cells [b] 0 true))):=((Same.refl hw).add _).add _
 refine zc0 (equalR_ok hS.wf (ha.later hw hS) (hb.later hw hS) hla hlb) fun r1 H1 hq=>?_
 obtain ⟨rfl,rfl⟩:=hq
 repeat' (first|refine zz1 @g131.eq_1 ?_|(refine zh (fun hc=>?_) (fun hc=>?_)<;>try simp only [yL] at hc))
 exact hPost _ _ ⟨rfl,hS⟩
theorem eqFunc_ok {H:GHeap} (hw:H.wf) {a b:Value} {A B:List VR'} (ha:TR H a A) (hb:TR H b B) (hla:A.length≤4611686018427387904) (hlb:B.length≤4611686018427387904) (hA:Shorts A) (hB:Shorts B):
 ∃ r H',gev G 130 [a,b,.func (.func 131) #[] #[]] H=some (r,H')∧(r=.bool (decide (A.map (·.2)=B.map (·.2)))∧Same H H'):=by
 refine gev_GW (f:=130) rfl fun Post hPost=>?_
 have hsa:=ha.isSl
 have hsb:=hb.isSl
 simp only [frameOf,Nat.reduceAdd]
 repeat' (first|refine zz3 @g130.eq_1 hsa.len hsb.len ?_|(refine zh (fun hc=>?_) (fun hc=>?_)<;>try simp only [yL] at hc))
 case refine_1=>
  refine hPost _ _ ⟨?_,Same.refl hw⟩
  rw [decide_eq_false fun e=>hc (by
   have h1:A.length=B.length:=by simpa using congrArg List.length e
   omega)]
 have hlen:A.length=B.length:=by omega
 refine GW_loop (fun k fr H1=>∃ (j:Nat),k=A.length - j∧j≤A.length∧fr.get 1=some (b)∧fr.get 2=some (.func (.func 131) #[] #[])∧fr.get 15=some (a)∧fr.get 16=some (.int .i64 A.length)∧fr.get 17=some (.int .i64 j)∧Same H H1∧(A.map (·.2)).take j=(B.map (·.2)).take j) ?_ A.length ?_
 case refine_2.refine_2=>
  refine ⟨0,by omega,by omega,?_⟩
  simp only [↓yG,Nat.reduceEqDiff,↓reduceIte,Int.natCast_add,Int.cast_ofNat_Int,Int.natCast_zero,true_and,and_true,Option.some.injEq,Value.int.injEq]
  exact ⟨Same.refl hw,by simp⟩
 rintro k fr H1 ⟨j,rfl,hj,f1,f2,f15,f16,f17,hS,hte⟩ J hJ
 by_cases hj1:j < A.length
 ·obtain ⟨e1,_,r1⟩:=(ha.later hw hS).row hj1
  obtain ⟨e2,_,r2⟩:=(hb.later hw hS).row (j:=j) (by omega)
  have hw1:=hS.wf
  have hlim1:=hw1.1
  have hmem:∀ (e:A[j]!.2=B[j]!.2),(A.map (·.2)).take (j+1)=(B.map (·.2)).take (j+1):=fun e=>by
   rw [List.take_succ_eq_append_getElem (by simpa using hj1),List.take_succ_eq_append_getElem (by simp;omega),hte]
   simp only [List.getElem_map]
   rw [← getElem!_pos A j hj1,← getElem!_pos B j (by omega),e]
  have hsha:=hA.at_ hj1
  have hshb:=hB.at_ (j:=j) (by omega)
  have hbad:¬ A[j]!.2=B[j]!.2→¬ (A.map (·.2)=B.map (·.2)):=fun h e=>h (by
   have:=congrArg (fun l=>l[j]?) e
   simp only [List.getElem?_map] at this
   rw [gget hj1,gget (by omega)] at this
   simpa using this)
  have e5:=fun (o o':GObj)=>((hb.later hw (hS.trans ((Same.refl hw1).new o o'))).row (j:=j) (by omega)).1
  have hgs:∀ w,flatV w=true→gsetn [.slice none 0 0] 0 1 (rowV w)=some [w]:=fun w hf=>gsetn_all (vs:=#[w]) rfl rfl (by simpa using hf)
  have g1:=hgs _ r1.flat
  have g2:=hgs _ r2.flat
  have hrow:∀ (w:Value) (Hx:GHeap) (q:Nat),(Hx.put q (.cells [w] 0 true)).rdn q 0 1=some (rowV w):=fun w Hx q=>rdn_put_all rfl
  generalize A[j]!.1=wa at *
  generalize A[j]!.2=la at *
  generalize B[j]!.1=wb at *
  generalize B[j]!.2=lb at *
  have hlb:((H1.add (some (.cells [.slice none 0 0] 0 true))).put H1.len (.cells [wa] 0 true)).len=H1.len+1:=by rw [len_put,len_add]
  have hSx:Same H1 ((((H1.add (some (.cells [.slice none 0 0] 0 true))).put H1.len (.cells [wa] 0 true)).add (some (.cells [.slice none 0 0] 0 true))).put (H1.len+1) (.cells [wb] 0 true)):=by
   have:=((Same.refl hw1).new (.cells [.slice none 0 0] 0 true) (.cells [wa] 0 true)).new (.cells [.slice none 0 0] 0 true) (.cells [wb] 0 true)
   rw [hlb] at this
   exact this
  repeat' (first|(exfalso;omega)|refine zz16 @g130.eq_1 @f1 @f2 @f15 @f16 @f17 hsa.ix hsb.ix @e1 @e2 @g1 @g2 @hrow @rdn_put_ne @rdn_add_ne @e5 ?_|(refine zh (fun hc=>?_) (fun hc=>?_)<;>try simp only [yL] at hc))
  refine zc5 @f1 @f2 @f15 @f16 @f17 (same_ok hSx.wf (r1.later hw1 hSx) (r2.later hw1 hSx) hsha hshb) fun r3 H3 hq=>?_
  obtain ⟨rfl,hS3⟩:=hq
  repeat' (first|(exfalso;omega)|refine zz6 @g130.eq_1 @f1 @f2 @f15 @f16 @f17 ?_|(refine zh (fun hc=>?_) (fun hc=>?_)<;>try simp only [yL] at hc))
  case pos.refine_1.refine_1=>
   refine hPost _ _ ⟨?_,(hS.trans hSx).trans hS3⟩
   rw [decide_eq_false (hbad hc)]
  case pos.refine_1.refine_2=>
   refine hJ _ _ ⟨A.length - (j+1),by omega,j+1,rfl,by omega,?_⟩
   simp only [↓yG,Nat.reduceEqDiff,↓reduceIte,Int.natCast_add,Int.cast_ofNat_Int,Int.natCast_zero,true_and,and_true,Option.some.injEq,Value.int.injEq,f1,f2,f15,f16]
   exact ⟨(hS.trans hSx).trans hS3,hmem hc⟩
 ·obtain rfl:j=A.length:=by omega
  have heq:A.map (·.2)=B.map (·.2):=by
   have e1:(A.map (·.2)).take A.length=A.map (·.2):=List.take_of_length_le (by simp)
   have e2:(B.map (·.2)).take A.length=B.map (·.2):=List.take_of_length_le (by simp;omega)
   rw [e1,e2] at hte
   exact hte
  rw [decide_eq_true heq] at hPost
  repeat' (first|(exfalso;omega)|refine zz6 @g130.eq_1 @f1 @f2 @f15 @f16 @f17 ?_|(refine zh (fun hc=>?_) (fun hc=>?_)<;>try simp only [yL] at hc))
  exact hPost _ _ ⟨rfl,hS⟩
theorem sameRows_ok {H:GHeap} (hw:H.wf) {a b:Value} {A B:List VR'} (ha:TR H a A) (hb:TR H b B) (hla:A.length≤4611686018427387904) (hlb:B.length≤4611686018427387904) (hA:Shorts A) (hB:Shorts B):
 ∃ r H',gev G 75 [a,b] H=some (r,H')∧(r=.bool (decide (A.map (·.2)=B.map (·.2)))∧Same H H'):=by
 refine gev_GW (f:=75) rfl fun Post hPost=>?_
 simp only [frameOf,Nat.reduceAdd]
 repeat' (first|refine zz1 @g75.eq_1 ?_|(refine zh (fun hc=>?_) (fun hc=>?_)<;>try simp only [yL] at hc))
 refine zc0 (eqFunc_ok hw ha hb hla hlb hA hB) fun r1 H1 hq=>?_
 obtain ⟨rfl,hS⟩:=hq
 repeat' (first|refine zz1 @g75.eq_1 ?_|(refine zh (fun hc=>?_) (fun hc=>?_)<;>try simp only [yL] at hc))
 exact hPost _ _ ⟨rfl,hS⟩
end Go.Gh
end
section
namespace Go.Gh
set_option linter.unusedSimpArgs false
set_option linter.unusedVariables false
set_option maxHeartbeats 4000000
open Go.RowKit
set_option maxRecDepth 4000
structure TO (H0 H:GHeap) (v:Value) (L:List VR'):Prop where
 own:OS 1 1 H0 H v L.length (L.map (·.1))
 rows:∀ x ∈ L,OR H0 H x.1 x.2
theorem TO.tr {H0 H:GHeap} {v:Value} {L:List VR'} (h:TO H0 H v L):TR H v L:=⟨OwnG.arg h.own.same.wf h.own.own (.inr rfl),fun x hx=>(h.rows x hx).rr⟩
theorem TO.later {H0 H H':GHeap} {v:Value} {L:List VR'} (h:TO H0 H v L) (hs:Same H H'):TO H0 H' v L:=⟨h.own.later hs,fun x hx=>(h.rows x hx).later hs⟩
theorem TO.snoc {H0 H:GHeap} {v:Value} {L:List VR'} (h:TO H0 H v L) {w:Value} {l:List SR} (hx:OR H0 H w l) (hl:(L.length+1) * 24≤140737488355328):
 ∃ v' H',gapp 1 24 1 (H.add (some (.cells [w] 1 true))) v (.slice (some ⟨H.len,0,none⟩) 1 2)=some (v',H')∧TO H0 H' v' (L ++ [(w,l)])∧But (fun j=>j ∈ idOf v) H H':=by
 obtain ⟨v',H',e,hO,hB⟩:=h.own.app1 (by decide) (by decide) (news:=[w]) rfl (b:=24) hl (by omega)
 refine ⟨v',H',e,⟨by simpa using hO,fun y hy=>?_⟩,hB⟩
 have:OR H0 H y.1 y.2:=by
  rcases List.mem_append.1 hy with hy|hy
  ·exact h.rows y hy
  ·rw [List.mem_singleton.1 hy];exact hx
 exact this.but hB (fun k hk ha=>by have:=(h.own.ids ha).1;omega) (this.unit_ne h.own (by decide))
end Go.Gh
end
section
namespace Go.Gh
set_option linter.unusedSimpArgs false
set_option linter.unusedVariables false
set_option maxHeartbeats 4000000
open Go.RowKit
set_option maxRecDepth 4000
theorem nil_of {H:GHeap} {s n gc:Nat} {v:Value} {xs:List Value} (h:GArg1 H s v n xs) (e:v=.slice none n gc) (hn:n≠0):False:=by
 obtain ⟨_,a,gc,e2,h3⟩:=h.rd
 rw [e] at e2;cases e2
 obtain ⟨i,o,cs,e,_⟩:=h3 (by omega);cases e
theorem cloneR_ok {H:GHeap} (hw:H.wf) {v:Value} {l:List SR} (hl:RR H v l) (hll:l.length * 40≤140737488351232):
 ∃ r H',gev G 188 [v] H=some (r,H')∧OR H H' r l:=by
 refine gev_GW (f:=188) rfl fun Post hPost=>?_
 have hlim:=hw.1
 simp only [frameOf,Nat.reduceAdd]
 obtain ⟨a,gc,e,hgc,hnil,hu⟩:=hl.sl
 cases a with
 |none=>
  have hl0:l=[]:=List.eq_nil_of_length_eq_zero (Classical.byContradiction fun hn=>nil_of hl e hn)
  subst hl0
  have hg0:gc=0:=by
   rcases hgc with h|⟨_,h⟩
   ·exact h
   ·exact absurd rfl h
  subst hg0
  subst e
  have heq:gbin .eql (some .sl) (.slice none 0 0) (.slice none 0 0)=some (.bool true):=by simp [gbin,geq,geqIn]
  repeat' (first|refine zz2 @g188.eq_1 @heq ?_|(refine zh (fun hc=>?_) (fun hc=>?_)<;>try simp only [yL] at hc))
  exact hPost _ _ (OS.nil (Same.refl hw))
 |some p=>
  have heq:gbin .eql (some .sl) v (.slice none 0 0)=some (.bool false):=by rw [e];simp [gbin,geq,geqIn]
  repeat' (first|refine zz2 @g188.eq_1 @heq ?_|(refine zh (fun hc=>?_) (fun hc=>?_)<;>try simp only [yL] at hc))
  have hO0:OS 5 5 H (H.add (some (.cells [] 5 true))) (.slice (some ⟨H.len,0,none⟩) 0 1) 0 []:=OS.made' (Same.refl hw) rfl
  refine Gw_s fun K' hK'=>?_
  simp (disch:=first|exact zd|fail) only [↓yS,yT,↓reduceIte,Nat.reduceEqDiff,Nat.reduceAdd,Nat.reduceMul,reduceCtorEq,Int.reduceToNat]
  obtain ⟨v',H',e,hO,hB⟩:=hO0.appN (by decide) (by decide) (hl.later hw hO0.same) (b:=40) (by omega) (by omega)
  refine G1_eq e (hK' _ _ ?_)
  clear hK' K' e
  repeat' (first|refine zz1 @g188.eq_1 ?_|(refine zh (fun hc=>?_) (fun hc=>?_)<;>try simp only [yL] at hc))
  rw [Nat.zero_add,List.nil_append] at hO
  exact hPost _ _ hO
theorem cloneT_ok {H:GHeap} (hw:H.wf) {v:Value} {l:List VR'} (hl:TR H v l) (hll:l.length * 24≤140737488351232):
 ∃ r H',gev G 187 [v] H=some (r,H')∧OS 1 1 H H' r l.length (l.map (·.1)):=by
 refine gev_GW (f:=187) rfl fun Post hPost=>?_
 have hlim:=hw.1
 simp only [frameOf,Nat.reduceAdd]
 obtain ⟨a,gc,e,hgc,hnil,hu⟩:=hl.rd.sl
 cases a with
 |none=>
  have hl0:l=[]:=List.eq_nil_of_length_eq_zero (Classical.byContradiction fun hn=>nil_of hl.rd e hn)
  subst hl0
  have hg0:gc=0:=by
   rcases hgc with h|⟨_,h⟩
   ·exact h
   ·exact absurd rfl h
  subst hg0
  subst e
  have heq:gbin .eql (some .sl) (.slice none 0 0) (.slice none 0 0)=some (.bool true):=by simp [gbin,geq,geqIn]
  repeat' (first|refine zz2 @g187.eq_1 @heq ?_|(refine zh (fun hc=>?_) (fun hc=>?_)<;>try simp only [yL] at hc))
  exact hPost _ _ (OS.nil (Same.refl hw))
 |some p=>
  have heq:gbin .eql (some .sl) v (.slice none 0 0)=some (.bool false):=by rw [e];simp [gbin,geq,geqIn]
  repeat' (first|refine zz2 @g187.eq_1 @heq ?_|(refine zh (fun hc=>?_) (fun hc=>?_)<;>try simp only [yL] at hc))
  have hO0:OS 1 1 H (H.add (some (.cells [] 1 true))) (.slice (some ⟨H.len,0,none⟩) 0 1) 0 []:=OS.made' (Same.refl hw) rfl
  refine Gw_s fun K' hK'=>?_
  simp (disch:=first|exact zd|fail) only [↓yS,yT,↓reduceIte,Nat.reduceEqDiff,Nat.reduceAdd,Nat.reduceMul,reduceCtorEq,Int.reduceToNat]
  obtain ⟨v',H',e,hO,hB⟩:=hO0.appN (by decide) (by decide) (hl.later hw hO0.same).rd (b:=24) (by omega) (by omega)
  refine G1_eq e (hK' _ _ ?_)
  clear hK' K' e
  repeat' (first|refine zz1 @g187.eq_1 ?_|(refine zh (fun hc=>?_) (fun hc=>?_)<;>try simp only [yL] at hc))
  rw [Nat.zero_add,List.nil_append] at hO
  exact hPost _ _ hO
theorem clone_ok {H:GHeap} (hw:H.wf) {a:Value} {A:List VR'} (ha:TR H a A) (hla:A.length * 24≤140737488351232) (hA:∀ x ∈ A,x.2.length * 40≤140737488351232):
 ∃ r H',gev G 156 [a] H=some (r,H')∧∃ L,TO H H' r L∧L.map (·.2)=A.map (·.2):=by
 refine gev_GW (f:=156) rfl fun Post hPost=>?_
 have hlim:=hw.1
 simp only [frameOf,Nat.reduceAdd]
 repeat' (first|refine zz1 @g156.eq_1 ?_|(refine zh (fun hc=>?_) (fun hc=>?_)<;>try simp only [yL] at hc))
 refine zc0 (cloneT_ok hw ha hla) fun v H1 hO1=>?_
 have hsl:IsSl v A.length:=hO1.rd.isSl
 repeat' (first|refine zz2 @g156.eq_1 hsl.len ?_|(refine zh (fun hc=>?_) (fun hc=>?_)<;>try simp only [yL] at hc))
 refine GW_loop (fun k fr H2=>∃ (j:Nat) (L:List VR'),k=A.length - j∧j≤A.length∧fr.get 3=some (v)∧fr.get 8=some (.int .i64 A.length)∧fr.get 9=some (.int .i64 j)∧L.length=A.length∧OS 1 1 H H2 v A.length (L.map (·.1))∧L.map (·.2)=A.map (·.2)∧(∀ i,i < j→OR H H2 L[i]!.1 L[i]!.2)∧∀ i,j≤i→L[i]! =A[i]!) ?_ A.length ?_
 case refine_2=>
  refine ⟨0,A,by omega,by omega,?_⟩
  simp only [↓yG,Nat.reduceEqDiff,↓reduceIte,Int.natCast_add,Int.cast_ofNat_Int,Int.natCast_zero,true_and,and_true,Option.some.injEq,Value.int.injEq]
  refine ⟨hO1,fun i hi=>absurd hi (by omega),?_⟩
  simp
 rintro k fr H2 ⟨j,L,rfl,hj,f3,f8,f9,hLl,hO,hL,hown,hel⟩ J hJ
 have hS:=hO.same
 by_cases hj1:j < A.length
 ·obtain ⟨i,gc,e,hg,hm⟩:∃ i gc,v=.slice (some ⟨i,0,none⟩) A.length gc∧(gc=0∨gc=A.length+1)∧H2.mine i=some (L.map (·.1),1):=by
   rcases hO.own.at_ with ⟨_,e⟩|h
   ·omega
   ·exact h
  have hblk:blk v=i:=by rw [e];rfl
  have hofs:ofs v=0:=by rw [e];rfl
  have hA0:A[j]! ∈ A:=by rw [getElem!_pos A j hj1];exact List.getElem_mem _
  have hlen:=hA _ hA0
  have r1:=(ha.rows _ hA0).later hw hS
  have hr:H2.rd i j=some A[j]!.1:=by
   rw [mine_rd hm]
   simp only [List.getElem?_map]
   rw [gget (by omega),hel j (Nat.le_refl _)];rfl
  repeat' (first|(exfalso;omega)|refine zz9 @g156.eq_1 @f3 @f8 @f9 hsl.ix @hblk @hofs @Nat.zero_add @hr ?_|(refine zh (fun hc=>?_) (fun hc=>?_)<;>try simp only [yL] at hc))
  refine zc3 @f3 @f8 @f9 (cloneR_ok hS.wf r1 hlen) fun w' H3 hO3=>?_
  have hOa:=hO.later hO3.same
  have hm3:H3.mine i=some (L.map (·.1),1):=by rw [hO3.same.mine (mine_lt hS.wf hm)];exact hm
  have hst:gst none H3 (.pointer (some ⟨i,j,none⟩)) w'=some (H3.put i (.cells ((L.map (·.1)).set j w') 1 true)):=by
   rw [gst_1,hm3,Option.bind_some,gset_ok (by simp;omega) hO3.flat];rfl
  obtain ⟨hOb,hB⟩:=hOa.setc e (ys:=(L.map (·.1)).set j w') (by simp)
  repeat' (first|(exfalso;omega)|refine zz9 @g156.eq_1 @f3 @f8 @f9 hsl.ix @hblk @hofs @Nat.zero_add @hst ?_|(refine zh (fun hc=>?_) (fun hc=>?_)<;>try simp only [yL] at hc))
  have hkeep:∀ {x:Value} {l:List SR},OR H H3 x l→OR H (H3.put i (.cells ((L.map (·.1)).set j w') 1 true)) x l:=fun h=>h.but hB (fun k hk e2=>by
   have:=(hOa.ids (a:=i) (by rw [e];simp [idOf])).1
   omega) fun a ha e2=>by
    refine h.unit_ne hOa (by decide) a ha ?_
    rw [e2,e];simp [idOf]
  have hset:∀ i',(L.set j (w',A[j]!.2))[i']! =if i'=j then (w',A[j]!.2) else L[i']!:=fun i'=>by
   by_cases h:i'=j
   ·subst h
    rw [if_pos rfl,getElem!_pos _ _ (by simp;omega)];simp
   ·rw [if_neg h]
    by_cases h2:i' < L.length
    ·rw [getElem!_pos _ _ (by simpa using h2),getElem!_pos L i' h2,List.getElem_set_ne (by omega)]
    ·rw [getElem!_neg _ _ (by simpa using h2),getElem!_neg L i' h2]
  refine hJ _ _ ⟨A.length - (j+1),by omega,j+1,L.set j (w',A[j]!.2),rfl,by omega,?_⟩
  simp only [↓yG,Nat.reduceEqDiff,↓reduceIte,Int.natCast_add,Int.cast_ofNat_Int,Int.natCast_zero,true_and,and_true,Option.some.injEq,Value.int.injEq,f3,f8]
  refine ⟨by simpa using hLl,?_,?_,fun i' hi=>?_,fun i' hi=>?_⟩
  ·rw [List.map_set];exact hOb
  ·rw [List.map_set,hL]
   refine List.ext_getElem (by simp) fun n h1 h2=>?_
   rw [List.getElem_set]
   split
   ·rename_i h;subst h
    rw [getElem!_pos A j hj1];simp
   ·rfl
  ·rw [hset]
   split
   ·exact hkeep (hO3.weaken hS)
   ·exact hkeep ((hown i' (by omega)).later hO3.same)
  ·rw [hset,if_neg (by omega)];exact hel i' (by omega)
 ·obtain rfl:j=A.length:=by omega
  repeat' (first|(exfalso;omega)|refine zz4 @g156.eq_1 @f3 @f8 @f9 ?_|(refine zh (fun hc=>?_) (fun hc=>?_)<;>try simp only [yL] at hc))
  refine hPost _ _ ⟨L,⟨by rw [hLl];exact hO,fun x hx=>?_⟩,hL⟩
  obtain ⟨i,hi,rfl⟩:=List.getElem_of_mem hx
  have:=hown i (by omega)
  rwa [getElem!_pos L i hi] at this
end Go.Gh
end
