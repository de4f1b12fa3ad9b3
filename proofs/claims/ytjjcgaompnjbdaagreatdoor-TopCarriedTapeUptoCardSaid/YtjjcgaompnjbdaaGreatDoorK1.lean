/-
  Parts of the proof: walks of the ghost functions and the laws of what they compute. No condition.
-/
import Derived.Shelf.Unicode.DecodeSlow
import Derived.WalkKit
import Derived.Below
import Derived.Laws.IdiomCopy
import Derived.Laws.IdiomStrings
import Derived.Laws.MakeOwn
import Derived.WalkLawsBesides
import Derived.ChangeKeysEq
import Derived.Laws.StructEq
import Derived.Laws.Cover4
import Derived.Laws.BytesArg
import Derived.Laws.Tables
namespace Go.Gh
set_option linter.unusedVariables false
set_option linter.unusedSimpArgs false
def gBT (_:Program):Nat:=260
def gCW (f:Nat):Bool:=[].contains f
def gOn (_:Program) (_:Nat):Bool:=false
def gML:Nat:=2
def gN (_:Program):Nat:=3
def gT (_:Program) (w:World):Prop:=Go.Lib.Utf8Tabs 0 1 w∧∃ m,w.cell? ⟨gML,0,none⟩=some (.int .i64 m)
theorem gT_keep {P:Program} {w w':World} (h:gT P w) (hb:∀ b,b < gN P→w'.heap[b]? =w.heap[b]?):gT P w':=by
 have key:∀ g c:Nat,g < 3→w'.cell? ⟨g,c,none⟩=w.cell? ⟨g,c,none⟩:=fun g c hg=>World.cell?_of_block (hb g hg)
 refine ⟨⟨fun c hc=>(key 0 c (by decide)).trans (h.1.1 c hc),fun i hi=>⟨(key 1 _ (by decide)).trans (h.1.2 i hi).1,(key 1 _ (by decide)).trans (h.1.2 i hi).2⟩⟩,?_⟩
 obtain ⟨m,hm⟩:=h.2
 exact ⟨m,(key gML 0 (by decide)).trans hm⟩
end Go.Gh
namespace Go.Gh
set_option linter.unusedVariables false
set_option linter.unusedSimpArgs false
inductive Tr (α:Type) where
 |nil
 |node (l:Tr α) (v:Option α) (r:Tr α)
 deriving Inhabited
namespace Tr
variable {α:Type}
def getF:Nat→Tr α→Nat→Option α
 |_,.nil,_=>none
 |0,.node _ v _,_=>v
 |k+1,.node l v r,n=>bif n == 0 then v else bif n % 2 == 1 then getF k l (n / 2) else getF k r (n / 2 - 1)
def setF:Nat→Tr α→Nat→α→Tr α
 |0,.nil,_,x=>.node .nil (some x) .nil
 |0,.node l _ r,_,x=>.node l (some x) r
 |k+1,.nil,n,x=>bif n == 0 then .node .nil (some x) .nil else bif n % 2 == 1 then .node (setF k .nil (n / 2) x) none .nil else .node .nil none (setF k .nil (n / 2 - 1) x)
 |k+1,.node l v r,n,x=>bif n == 0 then .node l (some x) r else bif n % 2 == 1 then .node (setF k l (n / 2) x) v r else .node l v (setF k r (n / 2 - 1) x)
def get (t:Tr α) (n:Nat):Option α:=getF n t n
def set (t:Tr α) (n:Nat) (x:α):Tr α:=setF n t n x
theorem getF_fuel:∀ (k:Nat) (t:Tr α) (n:Nat),n≤k→getF k t n=getF n t n:=by
 intro k
 induction k using Nat.strongRecOn with
 |_ k ih=>
  intro t n h
  cases t with
  |nil=>simp [getF]
  |node l v r=>
   cases k with
   |zero=>obtain rfl:n=0:=by omega
          rfl
   |succ k=>
    cases n with
    |zero=>simp [getF]
    |succ n=>
     simp only [getF]
     rw [ih k (by omega) l ((n+1) / 2) (by omega),ih k (by omega) r ((n+1) / 2 - 1) (by omega)]
     rcases Nat.lt_or_ge n k with h'|h'
     ·rw [ih n (by omega) l ((n+1) / 2) (by omega),ih n (by omega) r ((n+1) / 2 - 1) (by omega)]
     ·obtain rfl:n=k:=by omega
      rw [ih n (by omega) l ((n+1) / 2) (by omega),ih n (by omega) r ((n+1) / 2 - 1) (by omega)]
theorem get_setF:∀ (k:Nat) (t:Tr α) (n m:Nat) (x:α),n≤k→m≤k→getF k (setF k t n x) m=if n=m then some x else getF k t m:=by
 intro k
 induction k with
 |zero=>
  intro t n m x hn hm
  obtain rfl:n=0:=by omega
  obtain rfl:m=0:=by omega
  cases t<;>simp [setF,getF]
 |succ k ih=>
  intro t n m x hn hm
  have key:∀ (l:Tr α) (v:Option α) (r:Tr α),getF (k+1) (bif n == 0 then .node l (some x) r else bif n % 2 == 1 then .node (setF k l (n / 2) x) v r else .node l v (setF k r (n / 2 - 1) x)) m=if n=m then some x else getF (k+1) (.node l v r) m:=by
   intro l v r
   by_cases h0:n=0
   ·subst h0
    by_cases hm0:m=0
    ·subst hm0;simp [getF]
    ·have:¬ 0=m:=by omega
     simp [getF,(by simpa using hm0:(m == 0)=false),this]
   ·by_cases h1:n % 2=1
    ·simp only [h1,cond_false,cond_true,(by simpa using h0:(n == 0)=false),beq_self_eq_true]
     by_cases hm0:m=0
     ·subst hm0;simp [getF,h0]
     ·by_cases hm1:m % 2=1
      ·simp only [getF,(by simpa using hm0:(m == 0)=false),hm1,cond_false,beq_self_eq_true,cond_true]
       rw [ih _ _ _ _ (by omega) (by omega)]
       by_cases e:n=m
       ·subst e;simp
       ·rw [if_neg e,if_neg (by omega)]
      ·have e:¬ n=m:=by rintro rfl;exact hm1 h1
       simp only [getF,(by simpa using hm0:(m == 0)=false),cond_false,(by simpa using hm1:(m % 2 == 1)=false),if_neg e]
    ·simp only [(by simpa using h0:(n == 0)=false),(by simpa using h1:(n % 2 == 1)=false),cond_false]
     by_cases hm0:m=0
     ·subst hm0;simp [getF,h0]
     ·by_cases hm1:m % 2=1
      ·have e:¬ n=m:=by rintro rfl;exact h1 hm1
       simp only [getF,(by simpa using hm0:(m == 0)=false),hm1,cond_false,beq_self_eq_true,cond_true,if_neg e]
      ·simp only [getF,(by simpa using hm0:(m == 0)=false),cond_false,(by simpa using hm1:(m % 2 == 1)=false)]
       rw [ih _ _ _ _ (by omega) (by omega)]
       by_cases e:n=m
       ·subst e;simp
       ·rw [if_neg e,if_neg (by omega)]
  cases t with
  |nil=>
   have:=key .nil none .nil
   have hz:getF (k+1) (.node .nil none .nil:Tr α) m=getF (k+1) .nil m:=by
    simp only [getF];cases m == 0<;>cases m % 2 == 1<;>rfl
   rw [hz] at this
   exact this
  |node l v r=>exact key l v r
theorem setF_fuel:∀ (k:Nat) (t:Tr α) (n:Nat) (x:α),n≤k→setF k t n x=setF n t n x:=by
 intro k
 induction k using Nat.strongRecOn with
 |_ k ih=>
  intro t n x h
  cases k with
  |zero=>obtain rfl:n=0:=by omega
         rfl
  |succ k=>
   cases n with
   |zero=>cases t<;>simp [setF]
   |succ n=>
    have e:∀ t:Tr α,setF k t ((n+1) / 2) x=setF n t ((n+1) / 2) x∧setF k t ((n+1) / 2 - 1) x=setF n t ((n+1) / 2 - 1) x:=fun t=>
     ⟨by
       rw [ih k (by omega) t _ x (by omega)]
       rcases Nat.lt_or_ge n k with h'|h'
       ·rw [ih n (by omega) t _ x (by omega)]
       ·obtain rfl:n=k:=by omega
        rw [ih n (by omega) t _ x (by omega)],by
       rw [ih k (by omega) t _ x (by omega)]
       rcases Nat.lt_or_ge n k with h'|h'
       ·rw [ih n (by omega) t _ x (by omega)]
       ·obtain rfl:n=k:=by omega
        rw [ih n (by omega) t _ x (by omega)]⟩
    cases t<;>simp only [setF,(e _).1,(e _).2]
theorem get_set (t:Tr α) (n m:Nat) (x:α):(t.set n x).get m=if n=m then some x else t.get m:=by
 unfold get set
 rw [← getF_fuel (max n m) _ m (by omega),← setF_fuel (max n m) t n x (by omega),get_setF _ _ _ _ _ (by omega) (by omega),getF_fuel (max n m) t m (by omega)]
@[simp] theorem get_set_same (t:Tr α) (n:Nat) (x:α):(t.set n x).get n=some x:=by rw [get_set,if_pos rfl]
theorem get_set_ne (t:Tr α) {n m:Nat} (x:α) (h:n≠m):(t.set n x).get m=t.get m:=by rw [get_set,if_neg h]
@[simp] theorem get_nil (n:Nat):(Tr.nil:Tr α).get n=none:=by cases n<;>rfl
end Tr
inductive GObj where
 |dead (unit:Nat)
 |cells (cs:List Value) (unit:Nat) (own:Bool)
 |iter (s:ByteArray) (pos:Nat)
 |dict (es:List (Value × Value))
 deriving Inhabited
def GObj.unit:GObj→Nat
 |.dead u|.cells _ u _=>u
 |.iter _ _=>0
 |.dict _=>0
def usz (u:Nat):Nat:=if u=257 then 1 else if u=258 then 0 else u
structure GHeap where
 t:Tr GObj
 len:Nat
 lim:Nat
 deriving Inhabited
def GHeap.obj (H:GHeap) (i:Nat):Option GObj:=H.t.get i
def GHeap.add (H:GHeap):Option GObj→GHeap
 |none=>H
 |some o=>⟨H.t.set H.len o,H.len+1,H.lim⟩
def GHeap.put (H:GHeap) (i:Nat) (o:GObj):GHeap:=⟨H.t.set i o,H.len,H.lim⟩
def GHeap.cs (H:GHeap) (i:Nat):Option (List Value):=
 match H.obj i with
 |some (.cells cs _ _)=>some cs
 |_=>none
def GHeap.unit (H:GHeap) (i:Nat):Option Nat:=(H.obj i).map GObj.unit
def GHeap.mine (H:GHeap) (i:Nat):Option (List Value × Nat):=
 if H.lim≤i then
  match H.obj i with
  |some (.cells cs u true)=>some (cs,u)
  |_=>none
 else none
abbrev Fr:=Tr Value
def litFlat:Value→Bool
 |.bool _|.int _ _|.float _ _|.complex _ _ _|.string _|.pointer none|.map none|.chan none|.nilFunc|.nilIface=>true
 |.slice none n c=>n == 0 && c == 0
 |_=>false
def litOk:Value→Bool
 |.agg cs=>cs.all litFlat
 |.tuple cs=>cs.isEmpty
 |v=>litFlat v
def flatV:Value→Bool
 |.agg _|.tuple _=>false
 |_=>true
section
variable (P:Program)
def aggD:TypeDesc→Bool
 |.struct _|.array _ _=>true
 |_=>false
def szK (t:TypeId):Option Nat:=(P.info? t).map (·.size)
def byK (t:TypeId):Option Nat:=(P.info? t).map (·.bytes)
def zeroK (t:TypeId):Option Value:=(P.info? t).bind fun i=>i.zero.bind fun z=>if z.cells.all litFlat && litOk z then some z else none
def ldK (t:TypeId):Option (Option Nat):=
 match P.underlying t with
 |none=>none
 |some d=>if aggD d then (szK P t).map some else some none
def stK (t:TypeId):Option (Option Nat):=
 match ldK P t with
 |some none=>if szK P t=some 1 then some none else none
 |r=>r
def faK (s:TypeId) (f:Nat):Option Nat:=
 match P.underlying s with
 |some (.struct fs)=>match fs[f]? with
  |some fd=>match szK P fd.type with
   |some n=>if n=0 then none else some fd.offset
   |none=>none
  |none=>none
 |_=>none
def fldK (s:TypeId) (f:Nat):Option (Nat × Option Nat):=
 match P.underlying s with
 |some (.struct fs)=>match fs[f]? with
  |some fd=>(ldK P fd.type).map fun k=>(fd.offset,k)
  |none=>none
 |_=>none
def iaK (t:TypeId):Option (Option Nat × Nat):=
 match P.underlying t with
 |some (.slice e)=>(szK P e).map fun n=>(none,n)
 |some (.array len e)=>(szK P e).map fun n=>(some len,n)
 |_=>none
def ixK (t:TypeId):Option (Option (Nat × Nat × Option Nat)):=
 match P.underlying t with
 |some .string=>some none
 |some (.array len e)=>match szK P e,ldK P e with
  |some n,some k=>some (some (len,n,k))
  |_,_=>none
 |_=>none
def uK (e:TypeId):Nat:=if e=P.rt.byte then 257 else ((szK P e).map fun n=>if n=257∨n=258 then 0 else n).getD 0
def elK (t:TypeId):Option TypeId:=
 match P.underlying t with
 |some (.slice e)=>some e
 |_=>none
inductive SlK where
 |str
 |sl (size:Nat)
 |arr (len size:Nat)
def slcK (t:TypeId):Option SlK:=
 match P.underlying t with
 |some .string=>some .str
 |some (.slice e)=>(szK P e).map .sl
 |some (.array n e)=>(szK P e).map (.arr n)
 |_=>none
inductive CvK where
 |int (k:IntKind)
 |strOfInt
 |same
 |bytes (u:Nat)
 |runes (u:Nat)
 |ofBytes
 |ofRunes
def cvK (src dst:TypeId):Option CvK:=
 match P.underlying src,P.underlying dst with
 |some (.int _),some (.int k)=>some (.int k)
 |some (.int _),some .string=>some .strOfInt
 |some .string,some .string=>some .same
 |some .string,some (.slice e)=>match P.underlying e with
  |some (.int .u8)=>if szK P e=some 1 then some (.bytes (uK P e)) else none
  |some (.int .i32)=>if szK P e=some 1 then some (.runes (uK P e)) else none
  |_=>none
 |some (.slice e),some .string=>match P.underlying e with
  |some (.int .u8)=>some .ofBytes
  |some (.int .i32)=>some .ofRunes
  |_=>none
 |_,_=>none
end
def keepK (P:Program) (src dst:TypeId):Bool:=
 src == dst && match P.underlying dst with
  |some (.slice e)=>match P.underlying e with
   |some (.int .u8)=>true
   |_=>false
  |_=>false
def gld (k:Option Nat) (H:GHeap):Value→Option Value
 |.pointer (some ⟨i,o,none⟩)=>match H.cs i with
  |none=>none
  |some cs=>match k with
   |none=>cs[o]?
   |some n=>if o+n≤cs.length then some (.agg ((cs.drop o).take n).toArray) else none
 |_=>none
def gadd (n:Nat):Value→Option Value
 |.pointer (some ⟨i,o,none⟩)=>some (.pointer (some ⟨i,o+n,none⟩))
 |_=>none
def gpart (k:Option Nat) (off:Nat):Value→Option Value
 |.agg cs=>match k with
  |none=>cs[off]?
  |some n=>some (.agg (cs.extract off (off+n)))
 |_=>none
def gia (len:Option Nat) (size:Nat) (x i:Value):Option Value:=
 match i with
 |.int _ j=>match len,x with
  |none,.slice (some ⟨b,o,none⟩) n _=>if 0≤j∧j < n then some (.pointer (some ⟨b,o+j.toNat * size,none⟩)) else none
  |some n,.pointer (some ⟨b,o,none⟩)=>if 0≤j∧j < n then some (.pointer (some ⟨b,o+j.toNat * size,none⟩)) else none
  |_,_=>none
 |_=>none
def gix (r:Option (Nat × Nat × Option Nat)) (x i:Value):Option Value:=
 match i with
 |.int _ j=>match r,x with
  |none,.string s=>if 0≤j then (s[j.toNat]?).map fun b=>.int .u8 b.toNat else none
  |some (len,size,k),x=>if 0≤j∧j < len then gpart k (j.toNat * size) x else none
  |_,_=>none
 |_=>none
def gint (op:BinOp) (k:IntKind) (a b:Int):Option Value:=
 match op with
 |.add=>some (.int k (k.wrap (a+b)))
 |.sub=>some (.int k (k.wrap (a - b)))
 |.mul=>some (.int k (k.wrap (a * b)))
 |.quo=>if b=0 then none else some (.int k (k.wrap (a.tdiv b)))
 |.rem=>if b=0 then none else some (.int k (a.tmod b))
 |.and=>some (.int k (k.wrap (BitVec.ofInt k.bits a &&& BitVec.ofInt k.bits b).toNat))
 |.or=>some (.int k (k.wrap (BitVec.ofInt k.bits a ||| BitVec.ofInt k.bits b).toNat))
 |.xor=>some (.int k (k.wrap (BitVec.ofInt k.bits a ^^^ BitVec.ofInt k.bits b).toNat))
 |.andNot=>some (.int k (k.wrap (BitVec.ofInt k.bits a &&& ~~~BitVec.ofInt k.bits b).toNat))
 |.eql=>some (.bool (a == b))
 |.neq=>some (.bool (a != b))
 |.lss=>some (.bool (a < b))
 |.leq=>some (.bool (a≤b))
 |.gtr=>some (.bool (a > b))
 |.geq=>some (.bool (a ≥ b))
 |_=>none
def gshift (op:BinOp) (k:IntKind) (a b:Int):Option Value:=
 if b < 0 then none else
 match op with
 |.shl=>some (.int k (k.wrap (a * 2 ^ (min b.toNat k.bits))))
 |.shr=>some (.int k (a.fdiv (2 ^ (min b.toNat k.bits))))
 |_=>none
def gstr (op:BinOp) (x y:ByteArray):Option Value:=
 match op with
 |.add=>if x.size+y.size≤9223372036854775807 then some (.string (x ++ y)) else none
 |.eql=>some (.bool (x.toList == y.toList))
 |.neq=>some (.bool !(x.toList == y.toList))
 |.lss=>some (.bool (Op.bytesLess x.toList y.toList))
 |.leq=>some (.bool (Op.bytesLess x.toList y.toList || x.toList == y.toList))
 |.gtr=>some (.bool !(Op.bytesLess x.toList y.toList || x.toList == y.toList))
 |.geq=>some (.bool !Op.bytesLess x.toList y.toList)
 |_=>none
inductive EqK where
 |bool|int|str|ptr|sl|fn|map
 |parts (l:List (Nat × Option Nat × EqK))
 deriving Inhabited
section
variable (P:Program)
def eqFields (rec:TypeId→Option EqK):List Field→Option (List (Nat × Option Nat × EqK))
 |[]=>some []
 |f :: fs=>
  if f.name= "_" then eqFields rec fs else
  match ldK P f.type,rec f.type,eqFields rec fs with
  |some k,some q,some r=>some ((f.offset,k,q) :: r)
  |_,_,_=>none
def eqK:Nat→TypeId→Option EqK
 |0,_=>none
 |d+1,t=>
  match P.underlying t with
  |some .bool=>some .bool
  |some (.int _)=>some .int
  |some .string=>some .str
  |some (.pointer _)=>some .ptr
  |some (.slice _)=>some .sl
  |some (.func _ _ _)=>some .fn
  |some (.map _ _)=>some .map
  |some (.struct fs)=>if P.stoodInHeld t then none else (eqFields P (eqK d) fs.toList).map .parts
  |some (.array n e)=>match szK P e,ldK P e,eqK d e with
   |some s,some k,some q=>some (.parts ((List.range n).map fun i=>(i * s,k,q)))
   |_,_,_=>none
  |_=>none
def eqTopK (t:TypeId):Option EqK:=
 match eqK P 12 t with
 |some (.parts l)=>if P.eqGuardType P.depth t then none else some (.parts l)
 |r=>r
end
def geqAll (rec:EqK→Value→Value→Option Bool):List (Nat × Option Nat × EqK)→Array Value→Array Value→Option Bool
 |[],_,_=>some true
 |(off,k,q) :: r,xs,ys=>match gpart k off (.agg xs),gpart k off (.agg ys) with
  |some a,some b=>match rec q a b with
   |some true=>geqAll rec r xs ys
   |z=>z
  |_,_=>none
def geqIn:Nat→EqK→Value→Value→Option Bool
 |_,.bool,.bool a,.bool b=>some (a == b)
 |_,.int,.int k a,.int k' b=>if k=k' then some (a == b) else none
 |_,.str,.string a,.string b=>some (a == b)
 |_,.ptr,.pointer none,.pointer b=>some b.isNone
 |_,.ptr,.pointer (some _),.pointer none=>some false
 |_,.sl,.slice none _ _,.slice b _ _=>some b.isNone
 |_,.sl,.slice (some _) _ _,.slice none _ _=>some false
 |_,.fn,.nilFunc,.nilFunc=>some true
 |_,.fn,.nilFunc,.func _ _ _=>some false
 |_,.fn,.func _ _ _,.nilFunc=>some false
 |_,.map,.map none,.map b=>some b.isNone
 |_,.map,.map (some _),.map none=>some false
 |d+1,.parts l,.agg xs,.agg ys=>geqAll (geqIn d) l xs ys
 |_,_,_,_=>none
def geq (q:EqK) (x y:Value):Option Bool:=geqIn 12 q x y
def gbin (op:BinOp) (e:Option EqK) (x y:Value):Option Value:=
 match x,y with
 |.int k a,.int k' b=>match op with
  |.shl|.shr=>gshift op k a b
  |_=>if k=k' then gint op k a b else none
 |.string a,.string b=>gstr op a b
 |_,_=>match op,e with
  |.eql,some q=>(geq q x y).map .bool
  |.neq,some q=>(geq q x y).map fun b=>.bool !b
  |_,_=>none
def gun (op:UnOp) (x:Value):Option Value:=
 match op,x with
 |.neg,.int k n=>some (.int k (k.wrap (0 - n)))
 |.xor,.int k n=>gint .xor k (if k.signed then -1 else k.max) n
 |.not,.bool b=>some (.bool !b)
 |_,_=>none
def gbounds (len cap:Nat) (lo hi:Option Value):Option (Nat × Nat):=
 match (match hi with
  |none=>some len
  |some (.int _ h)=>if 0≤h∧h≤cap then some h.toNat else none
  |_=>none) with
 |none=>none
 |some h=>match lo with
  |none=>some (0,h)
  |some (.int _ l)=>if 0≤l∧l≤h then some (l.toNat,h) else none
  |_=>none
def gslice (r:SlK) (H:GHeap) (x:Value) (lo hi mx:Option Value):Option Value:=
 match r,x with
 |.str,.string s=>match mx with
  |some _=>none
  |none=>(gbounds s.size s.size lo hi).map fun (l,h)=>.string (s.extract l h)
 |.sl _,.slice none 0 0=>match mx with
  |some _=>none
  |none=>(gbounds 0 0 lo hi).map fun _=>.slice none 0 0
 |.sl size,.slice (some ⟨i,o,none⟩) n gc=>match H.unit i with
  |some u=>
   if u=0∨usz u=size then
    match mx with
    |none=>(gbounds n (if gc=0 then n else gc - 1) lo hi).map fun (l,h)=>.slice (some ⟨i,o+l * size,none⟩) (h - l) (if gc=0 then 0 else gc - l)
    |some (.int _ m)=>if 0≤m∧m.toNat≤(if gc=0 then n else gc - 1)∧hi.isSome then
     (gbounds n m.toNat lo hi).map fun (l,h)=>.slice (some ⟨i,o+l * size,none⟩) (h - l) (m.toNat - l+1)
     else none
    |_=>none
   else none
  |none=>none
 |.arr n size,.pointer (some ⟨i,o,none⟩)=>match H.unit i with
  |some 0=>match mx with
   |some _=>none
   |none=>(gbounds n n lo hi).map fun (l,h)=>.slice (some ⟨i,o+l * size,none⟩) (h - l) (n - l+1)
  |_=>none
 |_,_=>none
def gcap:Value→Option Value
 |.slice none _ _=>some (.int .i64 0)
 |.slice _ _ (c+1)=>some (.int .i64 c)
 |_=>none
def glen:Bool→Value→Option Value
 |true,.string s=>some (.int .i64 s.size)
 |false,.slice _ n _=>some (.int .i64 n)
 |_,_=>none
def gmin2:Value→Value→Option Value
 |.int k x,.int _ y=>some (.int k (if y < x then y else x))
 |_,_=>none
def gmax2:Value→Value→Option Value
 |.int k x,.int _ y=>some (.int k (if y > x then y else x))
 |_,_=>none
def gfold (f:Value→Value→Option Value):List Value→Value→Option Value
 |[],x=>some x
 |y :: r,x=>(f x y).bind (gfold f r)
def gcells (size m:Nat) (H:GHeap):Value→Option (List Value)
 |.slice none _ _=>some []
 |.slice (some ⟨i,o,none⟩) _ _=>
  if m * size=0 then some [] else
  match H.cs i with
  |none=>none
  |some cs=>if o+m * size≤cs.length then some ((cs.drop o).take (m * size)) else none
 |.string s=>some ((s.data.toList.take m).map fun b=>.int .u8 b.toNat)
 |_=>none
def gbytes:List Value→Option (List UInt8)
 |[]=>some []
 |.int .u8 n :: r=>(gbytes r).map fun l=>UInt8.ofNat n.toNat :: l
 |_ :: _=>none
def grunes:List Value→Option (List Int)
 |[]=>some []
 |.int .i32 n :: r=>(grunes r).map fun l=>n :: l
 |_ :: _=>none
def gconv (r:CvK) (H:GHeap) (x:Value):Option (Value × Option GObj):=
 match r,x with
 |.int k,.int _ n=>some (.int k (k.wrap n),none)
 |.strOfInt,.int _ n=>some (.string (Utf8.encode n),none)
 |.same,.string s=>some (.string s,none)
 |.bytes u,.string s=>some (.slice (some ⟨H.len,0,none⟩) s.size 0,some (.cells (s.data.toList.map fun b=>.int .u8 b.toNat) u true))
 |.runes u,.string s=>some (.slice (some ⟨H.len,0,none⟩) (Conv.runesFrom s s.size 0 #[]).size 0,some (.cells (Conv.runesFrom s s.size 0 #[]).toList u true))
 |.ofBytes,.slice a n c=>(gcells 1 n H (.slice a n c)).bind fun l=>(gbytes l).map fun b=>(.string ⟨b.toArray⟩,none)
 |.ofRunes,.slice a n c=>(gcells 1 n H (.slice a n c)).bind fun l=>(grunes l).map fun b=>(.string (b.foldl (fun s i=>s ++ Utf8.encode i) .empty),none)
 |_,_=>none
def fillL (cells:List Value):List (Nat × Nat × Value)→Option (List Value)
 |[]=>some cells
 |(off,size,v) :: rest=>
  if v.cells.toList.length≠size || off+size > cells.length || !(v.cells.toList.all flatV) then none
  else fillL (cells.take off ++ v.cells.toList ++ cells.drop (off+size)) rest
def zeros (z:List Value):Nat→List Value
 |0=>[]
 |n+1=>z ++ zeros z n
def gmake (z:List Value) (bytes u:Nat) (H:GHeap) (l c:Value):Option (Value × Option GObj):=
 match l,c with
 |.int _ l,.int _ c=>
  if 0≤l∧l≤c∧c * bytes≤281474976710656∧c≤9223372036854775807 then
   some (.slice (some ⟨H.len,0,none⟩) l.toNat (c.toNat+1),some (.cells (zeros z c.toNat) u true))
  else none
 |_,_=>none
def gst (k:Option Nat) (H:GHeap) (p v:Value):Option GHeap:=
 match p with
 |.pointer (some ⟨i,o,none⟩)=>match H.mine i with
  |none=>none
  |some (cs,u)=>match k with
   |none=>if o < cs.length∧flatV v=true then some (H.put i (.cells (cs.set o v) u true)) else none
   |some n=>match v with
    |.agg vs=>if vs.size=n∧o+n≤cs.length∧vs.all flatV=true then some (H.put i (.cells (cs.take o ++ vs.toList ++ cs.drop (o+n)) u true)) else none
    |_=>none
 |_=>none
def gcount:Value→Option Nat
 |.slice _ m _=>some m
 |.string s=>some s.size
 |_=>none
def gapp (size bytes u0:Nat) (H:GHeap) (s x:Value):Option (Value × GHeap):=
 (gcount x).bind fun m=>(gcells size m H x).bind fun news=>
 match s with
 |.slice b n gc=>
  if m=0 then some (s,H) else
  if (n+m) * bytes≤140737488355328∧n+m≤9223372036854775807∧size≠0∧news.length=m * size then
   match b with
   |none=>if n=0 then some (.slice (some ⟨H.len,0,none⟩) m 0,H.add (some (.cells news u0 true))) else none
   |some ⟨i,o,none⟩=>
    if gc=0 then
     match H.mine i with
     |some (cs,u)=>if u=u0∧u≠0∧o+n * size≤cs.length then
      some (.slice (some ⟨H.len,0,none⟩) (n+m) 0,(H.put i (.dead u)).add (some (.cells ((cs.drop o).take (n * size) ++ news) u0 true)))
      else none
     |none=>none
    else if gc≤n+m then
     (gcells size n H s).bind fun olds=>if olds.length=n * size then some (.slice (some ⟨H.len,0,none⟩) (n+m) 0,H.add (some (.cells (olds ++ news) u0 true))) else none
    else match H.mine i with
     |some (cs,u)=>if o+(n+m) * size≤cs.length then
      some (.slice b (n+m) gc,H.put i (.cells (cs.take (o+n * size) ++ news ++ cs.drop (o+(n+m) * size)) u true))
      else none
     |none=>none
   |_=>none
  else none
 |_=>none
def gappM (size bytes u0:Nat) (H:GHeap) (s x:Value):Option (Value × Option GObj):=
 (gcount x).bind fun m=>(gcells size m H x).bind fun news=>
 match s with
 |.slice b n gc=>
  if m=0 then some (s,none) else
  if (n+m) * bytes≤140737488355328∧n+m≤9223372036854775807∧size≠0∧news.length=m * size then
   match b with
   |none=>if n=0 then some (.slice (some ⟨H.len,0,none⟩) m 0,some (.cells news u0 true)) else none
   |some _=>if gc≠0∧gc≤n+m then
    (gcells size n H s).bind fun olds=>if olds.length=n * size then some (.slice (some ⟨H.len,0,none⟩) (n+m) 0,some (.cells (olds ++ news) u0 true)) else none
    else none
  else none
 |_=>none
def gappL (size bytes u0:Nat) (H:GHeap) (s:Value) (m:Nat) (news:List Value):Option (Value × GHeap):=
 match s with
 |.slice b n gc=>
  if m=0 then some (s,H) else
  if (n+m) * bytes≤140737488355328∧n+m≤9223372036854775807∧size≠0∧news.length=m * size then
   match b with
   |none=>if n=0 then some (.slice (some ⟨H.len,0,none⟩) m 0,H.add (some (.cells news u0 true))) else none
   |some ⟨i,o,none⟩=>
    if gc=0 then
     match H.mine i with
     |some (cs,u)=>if u=u0∧u≠0∧o+n * size≤cs.length then
      some (.slice (some ⟨H.len,0,none⟩) (n+m) 0,(H.put i (.dead u)).add (some (.cells ((cs.drop o).take (n * size) ++ news) u0 true)))
      else none
     |none=>none
    else if gc≤n+m then
     (gcells size n H s).bind fun olds=>if olds.length=n * size then some (.slice (some ⟨H.len,0,none⟩) (n+m) 0,H.add (some (.cells (olds ++ news) u0 true))) else none
    else match H.mine i with
     |some (cs,u)=>if o+(n+m) * size≤cs.length then
      some (.slice b (n+m) gc,H.put i (.cells (cs.take (o+n * size) ++ news ++ cs.drop (o+(n+m) * size)) u true))
      else none
     |none=>none
   |_=>none
  else none
 |_=>none
def gappML (size bytes u0:Nat) (H:GHeap) (s:Value) (m:Nat) (news:List Value):Option (Value × Option GObj):=
 match s with
 |.slice b n gc=>
  if m=0 then some (s,none) else
  if (n+m) * bytes≤140737488355328∧n+m≤9223372036854775807∧size≠0∧news.length=m * size then
   match b with
   |none=>if n=0 then some (.slice (some ⟨H.len,0,none⟩) m 0,some (.cells news u0 true)) else none
   |some _=>if gc≠0∧gc≤n+m then
    (gcells size n H s).bind fun olds=>if olds.length=n * size then some (.slice (some ⟨H.len,0,none⟩) (n+m) 0,some (.cells (olds ++ news) u0 true)) else none
    else none
  else none
 |_=>none
def gappZ (size bytes u0:Nat) (z:List Value) (H:GHeap) (s x:Value):Option (Value × GHeap):=
 match x with
 |.int _ j=>if 0≤IntKind.i64.wrap j∧(IntKind.i64.wrap j) * bytes≤281474976710656 then gappL size bytes u0 H s (IntKind.i64.wrap j).toNat (zeros z (IntKind.i64.wrap j).toNat) else none
 |_=>none
def gcopy (size:Nat) (H:GHeap) (d x:Value):Option (Value × GHeap):=
 (gcount x).bind fun m=>
 match d with
 |.slice b n _=>(gcells size (min m n) H x).bind fun news=>
  if (min m n) * size=0 then some (.int .i64 (min m n:Nat),H) else
  match b with
  |some ⟨i,o,none⟩=>match H.mine i with
   |some (cs,u)=>if o+news.length≤cs.length∧news.length=(min m n) * size then
    some (.int .i64 (min m n:Nat),H.put i (.cells (cs.take o ++ news ++ cs.drop (o+news.length)) u true))
    else none
   |none=>none
  |_=>none
 |_=>none
def gkeep (H:GHeap):Value→Option (Value × GHeap)
 |.slice (some ⟨i,o,none⟩) (n+1) c=>(H.mine i).map fun _=>(.slice (some ⟨i,o,none⟩) (n+1) c,H)
 |_=>none
def gnext (H:GHeap):Value→Option (Value × GHeap)
 |.pointer (some ⟨i,0,none⟩)=>if H.lim≤i then
  match H.obj i with
  |some (.iter s pos)=>
   if pos < s.size then
    some (.tuple #[.bool true,.int .i64 pos,.int .i32 (Utf8.decode s pos).1],H.put i (.iter s (pos+(Utf8.decode s pos).2)))
   else some (.tuple #[.bool false],H)
  |_=>none
  else none
 |_=>none
def gfind (k:IntKind) (a:Int):List (Value × Value)→Option (Option Value)
 |[]=>some none
 |(.int k' b,v) :: r=>if k=k' then (if a=b then some (some v) else gfind k a r) else none
 |_=>none
def gsetE (k:IntKind) (a:Int) (v:Value):List (Value × Value)→Option (List (Value × Value))
 |[]=>some [(.int k a,v)]
 |(.int k' b,u) :: r=>if k=k' then (if a=b then some ((.int k a,v) :: r) else (gsetE k a v r).map ((.int k' b,u) :: ·)) else none
 |_=>none
def gpair (ok:Bool) (v:Value) (b:Bool):Value:=if ok then .tuple #[v,.bool b] else v
def glook (z:Value) (ok:Bool) (H:GHeap) (x i:Value):Option Value:=
 match x,i with
 |.map none,.int _ _=>some (gpair ok z false)
 |.map (some r),.int k a=>match H.obj r with
  |some (.dict es)=>match gfind k a es with
   |some (some v)=>some (gpair ok v true)
   |some none=>some (gpair ok z false)
   |none=>none
  |_=>none
 |_,_=>none
def gmset (H:GHeap) (x i v:Value):Option GHeap:=
 match x,i with
 |.map (some r),.int k a=>if H.lim≤r∧litFlat v=true then
  match H.obj r with
  |some (.dict es)=>(gsetE k a v es).map fun es'=>H.put r (.dict es')
  |_=>none
  else none
 |_,_=>none
def mapK (P:Program) (t:TypeId):Option Value:=
 match P.underlying t with
 |some (.map key elem)=>match P.underlying key,zeroK P elem with
  |some (.int _),some z=>if litFlat z then some z else none
  |_,_=>none
 |_=>none
inductive GArg where
 |t (n:Nat)
 |c (v:Value)
 deriving Inhabited
inductive GOp where
 |move (x:GArg)
 |pick (c a b:GArg)
 |alloc (u:Nat) (z:List Value)
 |box (x:GArg)
 |build (z:List Value) (ps:List (Nat × Nat × GArg))
 |buildSl (unit n:Nat) (z:List Value) (ps:List (Nat × Nat × GArg))
 |load (k:Option Nat) (x:GArg)
 |nilc (x:GArg)
 |bin (op:BinOp) (e:Option EqK) (x y:GArg)
 |un (op:UnOp) (x:GArg)
 |conv (r:CvK) (x:GArg)
 |fn (f:FuncId) (first cap:List GArg)
 |mk (z:List Value) (bytes u:Nat) (l c:GArg)
 |slice (r:SlK) (x:GArg) (lo hi mx:Option GArg)
 |fa (n:Nat) (x:GArg)
 |fld (off:Nat) (k:Option Nat) (x:GArg)
 |ia (len:Option Nat) (size:Nat) (x i:GArg)
 |ix (r:Option (Nat × Nat × Option Nat)) (x i:GArg)
 |rng (x:GArg)
 |ext (x:GArg) (k:Nat)
 |len (s:Bool) (x:GArg)
 |lenOf (n:Nat)
 |min (x:GArg) (r:List GArg)
 |max (x:GArg) (r:List GArg)
 |store (k:Option Nat) (p x:GArg)
 |next (x:GArg)
 |app (size bytes u:Nat) (s x:GArg)
 |copy (size:Nat) (d x:GArg)
 |appM (size bytes u:Nat) (s x:GArg)
 |cap (x:GArg)
 |keep (x:GArg)
 |appZ (size bytes u:Nat) (z:List Value) (s n:GArg)
 |call (f:GArg) (xs:List GArg)
 |mkMap
 |look (z:Value) (ok:Bool) (x i:GArg)
 |mset (m i x:GArg)
 |bad
 deriving Inhabited
structure GOper where
 dst:Option Nat
 guard:Option (Nat × Bool)
 op:GOp
 deriving Inhabited
inductive GCode where
 |skip
 |line (l:List GOper)
 |any (hide:List GArg) (pre:List GOper) (post:List (Bool × GOper))
 |seq (a b:GCode)
 |cond (c:GArg) (a b:GCode)
 |block (id:Nat) (a:GCode)
 |loop (a:GCode)
 |exit (id:Nat)
 |ret
 |bad
 |goto (l:Nat)
 |scope (a:GCode) (l:Nat) (r:GCode)
 deriving Inhabited
inductive GRet where
 |tmp (t:Nat)
 |cell (t:Nat) (k:Option Nat)
 deriving Inhabited
structure GFun where
 ntmps:Nat
 rets:List GRet
 body:GCode
 deriving Inhabited
section
variable (P:Program)
def placesK:List Field→Option (List (Nat × Nat))
 |[]=>some []
 |f :: fs=>match szK P f.type,placesK fs with
  |some n,some r=>some ((f.offset,n) :: r)
  |_,_=>none
def placeK (t:TypeId) (i:Nat):Option (Nat × Nat):=
 match P.underlying t with
 |some (.struct fs)=>(placesK P fs.toList).bind (·[i]?)
 |some (.array _ e)=>(szK P e).map fun s=>(i * s,s)
 |_=>none
def placeOk (t:TypeId):Bool:=
 match P.underlying t with
 |some (.struct fs)=>(placesK P fs.toList).isSome
 |some (.array _ e)=>(szK P e).isSome
 |_=>false
def mkK (t:TypeId):Option (List Value × Nat × Nat):=
 match P.underlying t with
 |some (.slice e)=>match zeroK P e,byK P e,szK P e with
  |some z,some b,some s=>if z.cells.size=s∧s≠0 then some (z.cells.toList,b,uK P e) else none
  |_,_,_=>none
 |_=>none
def cArg:Operand→Option GArg
 |.tmp t=>some (.t t)
 |.const v=>if litOk v then some (.c v) else none
 |.global g=>if gOn P g then some (.c (.pointer (some ⟨g,0,none⟩))) else none
 |.func f=>some (.c (.func (.func f) #[] #[]))
def cArgs:List Operand→Option (List GArg)
 |[]=>some []
 |x :: r=>match cArg P x,cArgs r with
  |some a,some l=>some (a :: l)
  |_,_=>none
def cOpt:Option Operand→Option (Option GArg)
 |none=>some none
 |some x=>(cArg P x).map some
def cParts (pl:Nat→Option (Nat × Nat)):List (Nat × Operand)→Option (List (Nat × Nat × GArg))
 |[]=>some []
 |(i,x) :: r=>match pl i,cArg P x,cParts pl r with
  |some (o,n),some a,some l=>some ((o,n,a) :: l)
  |_,_,_=>none
def cOp:Op→Option GOp
 |.move x|.assign x=>(cArg P x).map .move
 |.pick c a b=>match cArg P c,cArg P a,cArg P b with
  |some c,some a,some b=>some (.pick c a b)
  |_,_,_=>none
 |.alloc e=>(zeroK P e).map fun z=>.alloc (if e=gBT P∧z.cells.size=2 then 258 else 0) z.cells.toList
 |.box _ x=>(cArg P x).map .box
 |.build t ps=>match zeroK P t,cParts P (placeK P t) ps.toList with
  |some z,some l=>if placeOk P t then some (.build z.cells.toList l) else none
  |_,_=>none
 |.buildSlice t n ps=>match mkK P t with
  |some (z,_,u)=>if n * z.length≤16777216 then (cParts P (fun i=>some (i * z.length,z.length)) ps.toList).map (.buildSl u n z) else none
  |none=>none
 |.load t a=>match ldK P t,cArg P a with
  |some k,some a=>some (.load k a)
  |_,_=>none
 |.store t p x=>match stK P t,cArg P p,cArg P x with
  |some k,some p,some x=>some (.store k p x)
  |_,_,_=>none
 |.nilCheck x=>(cArg P x).map .nilc
 |.binOp op t x y _=>match cArg P x,cArg P y with
  |some x,some y=>some (.bin op (match op with|.eql|.neq=>eqTopK P t|_=>none) x y)
  |_,_=>none
 |.unOp op _ x=>(cArg P x).map (.un op)
 |.convert s d x=>match cvK P s d,cArg P x with
  |some r,some x=>some (.conv r x)
  |none,some x=>if keepK P s d then some (.keep x) else none
  |_,_=>none
 |.makeFunc (.func f) first cap=>match cArgs P first.toList,cArgs P cap.toList with
  |some l,some m=>some (.fn f l m)
  |_,_=>none
 |.makeSlice t l c=>match mkK P t,cArg P l,cArg P c with
  |some (z,b,u),some l,some c=>some (.mk z b u l c)
  |_,_,_=>none
 |.slice t x lo hi mx=>match slcK P t,cArg P x,cOpt P lo,cOpt P hi,cOpt P mx with
  |some r,some x,some lo,some hi,some mx=>some (.slice r x lo hi mx)
  |_,_,_,_,_=>none
 |.fieldAddr s x f=>match faK P s f,cArg P x with
  |some n,some x=>some (.fa n x)
  |_,_=>none
 |.field t x f=>match fldK P t f,cArg P x with
  |some (o,k),some x=>some (.fld o k x)
  |_,_=>none
 |.indexAddr t x i=>match iaK P t,cArg P x,cArg P i with
  |some (len,n),some x,some i=>some (.ia len n x i)
  |_,_,_=>none
 |.index t x i=>match ixK P t,cArg P x,cArg P i with
  |some r,some x,some i=>some (.ix r x i)
  |_,_,_=>none
 |.range t x=>match P.underlying t with
  |some .string=>(cArg P x).map .rng
  |_=>none
 |.next x true=>(cArg P x).map .next
 |.extract x k=>(cArg P x).map fun x=>.ext x k
 |.call { callee:=.builtin b,args,argTypes }=>match b,cArgs P args.toList with
  |.cap,some [x]=>match (argTypes[0]?).bind P.underlying with
   |some (.slice _)=>some (.cap x)
   |_=>none
  |.len,some [x]=>match (argTypes[0]?).bind P.underlying with
   |some .string=>some (.len true x)
   |some (.slice _)=>some (.len false x)
   |some (.array n _)=>some (.lenOf n)
   |_=>none
  |.min,some (x :: r)=>some (.min x r)
  |.max,some (x :: r)=>some (.max x r)
  |.append,some [s,x]=>match (argTypes[0]?).bind (elK P),(argTypes[1]?).bind P.underlying with
   |some e,some d=>match szK P e,byK P e,zeroK P e,d with
    |some size,some bytes,some z,.slice _=>if z.cells.size=size then some (.app size bytes (uK P e) s x) else none
    |some 1,some bytes,some z,.string=>if z.cells.size=1 then some (.app 1 bytes (uK P e) s x) else none
    |some size,some bytes,some z,.int _=>if z.cells.size=size then some (.appZ size bytes (uK P e) z.cells.toList s x) else none
    |_,_,_,_=>none
   |_,_=>none
  |.copy,some [d,x]=>match ((argTypes[0]?).bind (elK P)).bind (szK P) with
   |some (n+1)=>some (.copy (n+1) d x)
   |_=>none
  |_,_=>none
 |.call { callee:=.value f,args,.. }=>match cArg P f,cArgs P args.toList with
  |some f,some l=>some (.call f l)
  |_,_=>none
 |.makeMap _ none=>some .mkMap
 |.lookup t x i ok=>match mapK P t,cArg P x,cArg P i with
  |some z,some x,some i=>some (.look z ok x i)
  |_,_,_=>none
 |.mapUpdate t m k x=>match mapK P t,cArg P m,cArg P k,cArg P x with
  |some _,some m,some k,some x=>some (.mset m k x)
  |_,_,_,_=>none
 |_=>none
def cGuard (ops:Array Oper):Option (Nat × Bool)→Option (Option (Nat × Bool))
 |none=>some none
 |some (j,b)=>((ops[j]?).bind (·.dst)).map fun d=>some (d,b)
def cOper (ops:Array Oper) (o:Oper):GOper:=
 match cGuard ops o.guard with
 |some g=>⟨o.dst,g,(cOp P o.op).getD .bad⟩
 |none=>⟨o.dst,none,.bad⟩
def addNew (l:List Nat) (x:Nat):List Nat:=if l.contains x then l else x :: l
def befStep (acc:List (List Nat)) (o:Oper):List (List Nat):=
 acc ++ [((o.after.toList.filter (Region.binds .any)).flatMap fun e=>e.on :: acc.getD e.on []).foldl addNew []]
def befores (ops:Array Oper):List (List Nat):=ops.toList.foldl befStep []
def bef (b:List (List Nat)) (i j:Nat):Bool:=(b.getD j []).contains i
def writes:GOp→Bool
 |.store _ _ _|.next _|.app _ _ _ _ _|.copy _ _ _|.keep _|.appZ _ _ _ _ _ _|.mset _ _ _=>true
 |_=>false
def pureG:GOp→Bool
 |.move _|.pick _ _ _|.build _ _|.nilc _|.bin _ _ _ _|.un _ _|.fn _ _ _|.slice _ _ _ _ _|.fa _ _|.fld _ _ _|.ia _ _ _ _|.ix _ _ _|.ext _ _|.len _ _|.lenOf _|.min _ _|.max _ _|.cap _|.look _ _ _ _=>true
 |.conv r _=>match r with
  |.int _|.strOfInt|.same=>true
  |_=>false
 |_=>false
def isCall:GOp→Bool
 |.call _ _=>true
 |_=>false
def isLook:GOp→Bool
 |.look _ _ _ _=>true
 |_=>false
def isMset:GOp→Bool
 |.mset _ _ _=>true
 |_=>false
def target:GOp→Option GArg
 |.store _ p _=>some p
 |.app _ _ _ x _=>some x
 |.next x=>some x
 |.copy _ x _=>some x
 |.keep x=>some x
 |.appZ _ _ _ _ x _=>some x
 |.mset x _ _=>some x
 |_=>none
def writers (ops:Array Oper) (t:Nat):List Nat:=(List.range ops.size).filter fun j=>(ops[j]?).bind (·.dst) == some t
def trace (b:List (List Nat)) (ops:Array Oper) (gs:List GOper):Nat→Nat→GArg→Option GArg
 |0,_,_=>none
 |n+1,i,x=>match x with
  |.c _=>some x
  |.t t=>match writers ops t with
   |[]=>some x
   |[j]=>if bef b i j then some x else
    match (gs[j]?).map (·.op) with
    |some (GOp.move y)|some (GOp.fa _ y)|some (GOp.nilc y)|some (GOp.ia _ _ y _)=>trace b ops gs n j y
    |_=>none
   |_=>none
def postOf (b:List (List Nat)) (gs:List GOper) (c:Bool):List Nat:=
 let n:=gs.length
 let w:=(List.range n).filter fun j=>match (gs[j]?).map (·.op) with
  |some op=>writes op || (c && isCall op)
  |none=>false
 (List.range n).filter fun j=>w.contains j || w.any fun i=>bef b i j
def early (b:List (List Nat)) (op:Nat→GOp) (pre:List Nat) (j:Nat):Bool:=!(pureG (op j)) && !(pre.all fun i=>bef b i j || pureG (op i))
def nodupB:List Nat→Bool
 |[]=>true
 |x :: r=>!(r.contains x) && nodupB r
def planOk (ops:Array Oper) (b:List (List Nat)) (gs:List GOper) (pre post:List Nat):Bool:=
 nodupB (pre ++ post) && ((pre ++ post).all fun j=>decide (j < ops.size)) && ((List.range ops.size).all fun j=>(pre ++ post).contains j) &&
 ((pre ++ post).zipIdx.all fun (j,p)=>(b.getD j []).all fun i=>((pre ++ post).take p).contains i) &&
 (post.zipIdx.all fun (j,p)=>(post.take p).all fun i=>bef b i j || (pureG (opOf gs i) && pureG (opOf gs j))) &&
 (pre.all fun j=>!writes (opOf gs j)) &&
 ((gs.all fun g=>!isLook g.op) || (gs.all fun g=>!isCall g.op && !isMset g.op)) &&
 ((List.range ops.size).all fun j=>match (ops[j]?).bind (·.dst) with
   |none=>true
   |some t=>writers ops t == [j] && ((List.range ops.size).all fun i=>i == j || bef b i j || bef b j i || !(reads (gs.getD i default)).contains t))
where
 opOf (gs:List GOper) (j:Nat):GOp:=(gs.getD j default).op
 args:GOp→List GArg
  |.move x|.box x|.load _ x|.nilc x|.un _ x|.conv _ x|.fa _ x|.fld _ _ x|.rng x|.ext x _|.len _ x|.next x|.cap x|.keep x=>[x]
  |.pick c a b=>[c,a,b]
  |.alloc _ _|.lenOf _|.bad|.mkMap=>[]
  |.build _ ps|.buildSl _ _ _ ps=>ps.map (·.2.2)
  |.bin _ _ x y|.mk _ _ _ x y|.ia _ _ x y|.ix _ x y|.store _ x y|.app _ _ _ x y|.appM _ _ _ x y|.appZ _ _ _ _ x y|.copy _ x y=>[x,y]
  |.fn _ a b=>a ++ b
  |.look _ _ x i=>[x,i]
  |.mset m i x=>[m,i,x]
  |.slice _ x lo hi mx=>[x] ++ lo.toList ++ hi.toList ++ mx.toList
  |.min x r|.max x r|.call x r=>x :: r
 reads (g:GOper):List Nat:=(g.guard.toList.map (·.1)) ++ (args g.op).filterMap fun|.t n=>some n|.c _=>none
def targets:GOp→List GArg
 |.call _ xs=>xs
 |op=>(target op).toList
def planOf (ops:Array Oper) (b:List (List Nat)) (gs:List GOper) (c wr:Bool):Option GCode:=
 let post:=postOf b gs c
 let pre:=(List.range gs.length).filter fun j=>!post.contains j
 let e (j:Nat):Bool:=early b (planOk.opOf gs) pre j
 if planOk ops b gs pre post && (wr || post.all fun j=>!(e j) || writes (planOk.opOf gs j)) then
  some (.any ((post.filter e).flatMap fun j=>(targets (planOk.opOf gs j)).filterMap (trace b ops gs gs.length j)) (pre.map (gs.getD · default)) (post.map fun j=>(e j,gs.getD j default)))
 else none
def toM (ops:Array Oper) (b:List (List Nat)) (gs:List GOper):List GOper:=
 gs.zipIdx.map fun (g,j)=>match g.op with
  |.app size bytes u s x=>
   if (trace b ops gs gs.length j s).isNone && ((List.range gs.length).any fun i=>i != j && !bef b i j && !bef b j i && !pureG (planOk.opOf gs i)) then ⟨g.dst,g.guard,.appM size bytes u s x⟩ else g
  |_=>g
def cAny (ops:Array Oper):GCode:=
 let b:=befores ops
 let gs:=toM ops b (ops.toList.map (cOper P ops))
 let wr:=gs.any fun g=>match g.op with
  |.call (.c (.func (.func f) _ _)) _=>gCW f
  |_=>false
 ((if wr then planOf ops b gs true true else none).orElse fun _=>(planOf ops b gs true false).orElse fun _=>planOf ops b gs false false).getD .bad
def spine:Code→Option Nat
 |.seq a b=>match spine a with
  |some l=>some l
  |none=>spine b
 |.label l=>some l
 |_=>none
mutual
def cCode:Code→GCode
 |.skip|.label _=>.skip
 |.region _ ops draw=>if draw then cAny P ops else .line (ops.toList.map (cOper P ops))
 |.seq a b=>.seq (cCode a) (cCode b)
 |.cond c a b=>match cArg P c with
  |some c=>.cond c (cCode a) (cCode b)
  |none=>.bad
 |.block id a=>.block id (cCode a)
 |.loop a=>.loop (cCode a)
 |.exit id=>.exit id
 |.ret=>.ret
 |.goto l=>.goto l
 |.scope a=>match spine a with
  |some l=>match cRest a l with
   |some r=>.scope (cCode a) l r
   |none=>.bad
  |none=>.bad
 |_=>.bad
def cRest:Code→Nat→Option GCode
 |.seq a b,l=>match cRest a l with
  |some r=>some (.seq r (cCode b))
  |none=>cRest b l
 |.label l',l=>if l' == l then some .skip else none
 |_,_=>none
end
def cRets:List ResultVar→Option (List GRet)
 |[]=>some []
 |.tmp t :: r=>(cRets r).map (.tmp t :: ·)
 |.cell a t :: r=>match ldK P t,cRets r with
  |some k,some l=>some (.cell a k :: l)
  |_,_=>none
def dstsOk (n:Nat):Code→Bool
 |.region _ ops _=>ops.all fun o=>match o.dst with
  |some d=>decide (d < n)
  |none=>true
 |.seq a b|.cond _ a b=>dstsOk n a && dstsOk n b
 |.block _ a|.loop a|.scope a=>dstsOk n a
 |_=>true
def cFun (fn:Func):Option GFun:=
 if fn.name == "runtime.NumGoroutine" then none else
 match fn.body with
 |none=>none
 |some c=>if dstsOk fn.ntmps c then (cRets P fn.results.toList).map fun r=>⟨fn.ntmps,r,cCode P c⟩ else none
end
section
def GArg.ev (fr:Fr):GArg→Option Value
 |.t n=>fr.get n
 |.c v=>some v
def evs (fr:Fr):List GArg→Option (List Value)
 |[]=>some []
 |x :: r=>match x.ev fr,evs fr r with
  |some v,some l=>some (v :: l)
  |_,_=>none
def evOpt (fr:Fr):Option GArg→Option (Option Value)
 |none=>some none
 |some x=>(x.ev fr).map some
def evParts (fr:Fr):List (Nat × Nat × GArg)→Option (List (Nat × Nat × Value))
 |[]=>some []
 |(o,n,x) :: r=>match x.ev fr,evParts fr r with
  |some v,some l=>some ((o,n,v) :: l)
  |_,_=>none
def gopM (fr:Fr) (H:GHeap):GOp→Option (Value × Option GObj)
 |.move x=>(x.ev fr).map fun v=>(v,none)
 |.pick c a b=>match c.ev fr with
  |some (.bool t)=>(if t then a.ev fr else b.ev fr).map fun v=>(v,none)
  |_=>none
 |.alloc u z=>some (.pointer (some ⟨H.len,0,none⟩),some (.cells z u true))
 |.box x=>(x.ev fr).bind fun v=>if v.cells.all flatV then some (.pointer (some ⟨H.len,0,none⟩),some (.cells v.cells.toList 0 true)) else none
 |.build z ps=>(evParts fr ps).bind fun l=>(fillL z l).map fun cs=>(.agg cs.toArray,none)
 |.buildSl u n z ps=>(evParts fr ps).bind fun l=>(fillL (zeros z n) l).map fun cs=>(.slice (some ⟨H.len,0,none⟩) n (n+1),some (.cells cs u true))
 |.load k a=>(a.ev fr).bind fun v=>(gld k H v).map fun r=>(r,none)
 |.nilc x=>(x.ev fr).bind fun v=>match v with
  |.pointer (some _)=>some (v,none)
  |.func (.func _) _ _=>some (v,none)
  |_=>none
 |.bin op e x y=>(x.ev fr).bind fun a=>(y.ev fr).bind fun b=>(gbin op e a b).map fun r=>(r,none)
 |.un op x=>(x.ev fr).bind fun a=>(gun op a).map fun r=>(r,none)
 |.conv r x=>(x.ev fr).bind fun v=>gconv r H v
 |.fn f first cap=>(evs fr first).bind fun l=>(evs fr cap).map fun m=>(.func (.func f) l.toArray m.toArray,none)
 |.mk z b u l c=>(l.ev fr).bind fun x=>(c.ev fr).bind fun y=>gmake z b u H x y
 |.slice r x lo hi mx=>(x.ev fr).bind fun v=>(evOpt fr lo).bind fun l=>(evOpt fr hi).bind fun h=>(evOpt fr mx).bind fun m=>(gslice r H v l h m).map fun r=>(r,none)
 |.fa n x=>(x.ev fr).bind fun v=>(gadd n v).map fun r=>(r,none)
 |.fld o k x=>(x.ev fr).bind fun v=>(gpart k o v).map fun r=>(r,none)
 |.ia len n x i=>(x.ev fr).bind fun v=>(i.ev fr).bind fun j=>(gia len n v j).map fun r=>(r,none)
 |.ix r x i=>(x.ev fr).bind fun v=>(i.ev fr).bind fun j=>(gix r v j).map fun r=>(r,none)
 |.rng x=>(x.ev fr).bind fun v=>match v with
  |.string s=>some (.pointer (some ⟨H.len,0,none⟩),some (.iter s 0))
  |_=>none
 |.ext x k=>(x.ev fr).bind fun v=>match v with
  |.tuple vs=>(vs[k]?).map fun r=>(r,none)
  |_=>none
 |.len s x=>(x.ev fr).bind fun v=>(glen s v).map fun r=>(r,none)
 |.cap x=>(x.ev fr).bind fun v=>(gcap v).map fun r=>(r,none)
 |.appM size bytes u s x=>(s.ev fr).bind fun s=>(x.ev fr).bind fun x=>gappM size bytes u H s x
 |.lenOf n=>some (.int .i64 n,none)
 |.min x r=>(x.ev fr).bind fun v=>(evs fr r).bind fun l=>(gfold gmin2 l v).map fun v=>(v,none)
 |.max x r=>(x.ev fr).bind fun v=>(evs fr r).bind fun l=>(gfold gmax2 l v).map fun v=>(v,none)
 |.mkMap=>some (.map (some H.len),some (.dict []))
 |.look z ok x i=>(x.ev fr).bind fun x=>(i.ev fr).bind fun i=>(glook z ok H x i).map fun r=>(r,none)
 |_=>none
def gopW (fr:Fr) (H:GHeap):GOp→Option (Value × GHeap)
 |.store k p x=>(p.ev fr).bind fun p=>(x.ev fr).bind fun v=>(gst k H p v).map fun H'=>(undef,H')
 |.next x=>(x.ev fr).bind (gnext H)
 |.app size bytes u s x=>(s.ev fr).bind fun s=>(x.ev fr).bind fun x=>gapp size bytes u H s x
 |.copy size d x=>(d.ev fr).bind fun d=>(x.ev fr).bind fun x=>gcopy size H d x
 |.keep x=>(x.ev fr).bind fun v=>gkeep H v
 |.appZ size bytes u z s x=>(s.ev fr).bind fun s=>(x.ev fr).bind fun x=>gappZ size bytes u z H s x
 |.mset m i x=>(m.ev fr).bind fun m=>(i.ev fr).bind fun i=>(x.ev fr).bind fun v=>(gmset H m i v).map fun H'=>(undef,H')
 |_=>none
def gput (fr:Fr) (dst:Option Nat) (v:Value):Fr:=
 match dst with
 |none=>fr
 |some d=>fr.set d v
def gwants (fr:Fr):Option (Nat × Bool)→Option Bool
 |none=>some true
 |some (d,b)=>match fr.get d with
  |some (.bool c)=>some (c == b)
  |some _=>some false
  |none=>none
abbrev GCall:=FuncId→List Value→GHeap→Option (Value × GHeap)
def gtarget (fr:Fr) (f:GArg) (xs:List GArg):Option (FuncId × List Value):=
 match f.ev fr with
 |some (.func (.func g) first cap)=>(evs fr xs).map fun l=>(g,first.toList ++ l ++ cap.toList)
 |_=>none
def gdo (call:GCall) (fr:Fr) (H:GHeap) (op:GOp):Option (Value × GHeap):=
 match op with
 |.call f xs=>(gtarget fr f xs).bind fun (g,args)=>call g args H
 |op=>if writes op then gopW fr H op else (gopM fr H op).map fun (v,new)=>(v,H.add new)
def gdoM (call:GCall) (fr:Fr) (H:GHeap) (op:GOp):Option (Value × GHeap):=
 match op with
 |.call f xs=>(gtarget fr f xs).bind fun (g,args)=>(call g args ⟨H.t,H.len,H.len⟩).map fun (v,H')=>(v,⟨H'.t,H'.len,H.lim⟩)
 |op=>(gopM fr H op).map fun (v,new)=>(v,H.add new)
def gsteps (run:Fr→GHeap→GOp→Option (Value × GHeap)):List GOper→Fr→GHeap→Option (Fr × GHeap)
 |[],fr,H=>some (fr,H)
 |o :: r,fr,H=>match gwants fr o.guard with
  |some true=>match run fr H o.op with
   |some (v,H')=>gsteps run r (gput fr o.dst v) H'
   |none=>none
  |some false=>gsteps run r (gput fr o.dst undef) H
  |none=>none
def idOf:Value→List Nat
 |.pointer (some a)|.slice (some a) _ _=>[a.block]
 |.map (some i)=>[i]
 |_=>[]
def aims (fr:Fr) (hid:List Nat) (op:GOp):Bool:=
 match (target op).bind (GArg.ev fr) with
 |some v=>(idOf v).all hid.contains
 |none=>true
noncomputable def keptB (H H':GHeap) (hid:List Nat):Bool:=@decide (∀ i,i < H.len→i ∉ hid→H'.obj i=H.obj i) (Classical.propDecidable _)
theorem keptB_of {H H':GHeap} {hid:List Nat} (h:keptB H H' hid=true):∀ i,i < H.len→i ∉ hid→H'.obj i=H.obj i:=@of_decide_eq_true _ (Classical.propDecidable _) h
noncomputable def gdoE (call:GCall) (hid:List Nat) (e:Bool) (fr:Fr) (H:GHeap) (op:GOp):Option (Value × GHeap):=
 match gdo call fr H op with
 |some (v,H')=>if (e && isCall op && !keptB H H' hid)=true then none else some (v,H')
 |none=>none
theorem gdoE_some {call:GCall} {hid:List Nat} {e:Bool} {fr:Fr} {H:GHeap} {op:GOp} {r:Value × GHeap} (h:gdoE call hid e fr H op=some r):gdo call fr H op=some r∧(e=true→isCall op=true→keptB H r.2 hid=true):=by
 unfold gdoE at h
 split at h
 ·rename_i v H' h1
  split at h
  ·cases h
  ·rename_i hc
   cases h
   refine ⟨h1,fun he hi=>?_⟩
   rw [he,hi] at hc
   simpa using hc
 ·cases h
theorem gdoE_yes {call:GCall} {hid:List Nat} {e:Bool} {fr:Fr} {H:GHeap} {op:GOp} {r:Value × GHeap} (h:gdo call fr H op=some r) (hk:e=true→isCall op=true→keptB H r.2 hid=true):gdoE call hid e fr H op=some r:=by
 unfold gdoE
 rw [h]
 simp only
 rw [if_neg]
 intro hc
 simp only [Bool.and_eq_true,Bool.not_eq_true'] at hc
 have:=hk hc.1.1 hc.1.2
 rw [hc.2] at this;cases this
noncomputable def gpost (call:GCall) (hid:List Nat):List (Bool × GOper)→Fr→GHeap→Option (Fr × GHeap)
 |[],fr,H=>some (fr,H)
 |(e,o) :: r,fr,H=>match gwants fr o.guard with
  |some true=>
   if e && !aims fr hid o.op then none else
   match gdoE call hid e fr H o.op with
   |some (v,H')=>gpost call hid r (gput fr o.dst v) H'
   |none=>none
  |some false=>gpost call hid r (gput fr o.dst undef) H
  |none=>none
def ghide (H:GHeap):List Nat→GHeap
 |[]=>H
 |i :: r=>match H.unit i with
  |some u=>ghide (H.put i (.dead u)) r
  |none=>ghide H r
def gback (H:GHeap) (H':GHeap):List Nat→GHeap
 |[]=>H'
 |i :: r=>match H.obj i with
  |some o=>gback H (H'.put i o) r
  |none=>gback H H' r
def hidden (fr:Fr) (l:List GArg):List Nat:=l.flatMap fun x=>match x.ev fr with
 |some v=>idOf v
 |none=>[]
noncomputable def gany (call:GCall) (hide:List GArg) (pre:List GOper) (post:List (Bool × GOper)) (fr:Fr) (H:GHeap):Option (Fr × GHeap):=
 match gsteps (gdoM call) pre fr (ghide H ((hidden fr hide).filter (· < H.len))) with
 |some (fr',H')=>gpost call ((hidden fr hide).filter (· < H.len)) post fr' (gback H H' ((hidden fr hide).filter (· < H.len)))
 |none=>none
inductive GExit where
 |normal
 |exit (id:Nat)
 |ret
 |goto (l:Nat)
 deriving DecidableEq,Inhabited
abbrev GRes:=Option (GExit × Fr × GHeap)
def gloop (body:Fr→GHeap→GRes):Nat→Fr→GHeap→GRes
 |0,_,_=>none
 |n+1,fr,H=>match body fr H with
  |some (.normal,fr',H')=>gloop body n fr' H'
  |r=>r
noncomputable def gcode (call:GCall) (m:Nat):GCode→Fr→GHeap→GRes
 |.skip,fr,H=>some (.normal,fr,H)
 |.line l,fr,H=>match gsteps (gdo call) l fr H with
  |some (fr',H')=>some (.normal,fr',H')
  |none=>none
 |.any hide pre post,fr,H=>match gany call hide pre post fr H with
  |some (fr',H')=>some (.normal,fr',H')
  |none=>none
 |.seq a b,fr,H=>match gcode call m a fr H with
  |some (.normal,fr',H')=>gcode call m b fr' H'
  |r=>r
 |.cond c a b,fr,H=>match c.ev fr with
  |some (.bool true)=>gcode call m a fr H
  |some (.bool false)=>gcode call m b fr H
  |_=>none
 |.block id a,fr,H=>match gcode call m a fr H with
  |some (.exit id',fr',H')=>if id'=id then some (.normal,fr',H') else some (.exit id',fr',H')
  |r=>r
 |.loop a,fr,H=>gloop (gcode call m a) m fr H
 |.exit id,fr,H=>some (.exit id,fr,H)
 |.ret,fr,H=>some (.ret,fr,H)
 |.bad,_,_=>none
 |.goto l,fr,H=>some (.goto l,fr,H)
 |.scope a l r,fr,H=>match gcode call m a fr H with
  |some (.goto l',fr',H')=>if l'=l then
   match gcode call m r fr' H' with
   |some (.goto _,_,_)=>none
   |x=>x
   else none
  |x=>x
def gresults (fr:Fr) (H:GHeap):List GRet→Option (List Value)
 |[]=>some []
 |.tmp t :: r=>match fr.get t,gresults fr H r with
  |some v,some l=>some (v :: l)
  |_,_=>none
 |.cell t k :: r=>match (fr.get t).bind (gld k H),gresults fr H r with
  |some v,some l=>some (v :: l)
  |_,_=>none
def gone:List Value→Value
 |[v]=>v
 |vs=>.tuple vs.toArray
def frameOf:Nat→List Value→Fr→Fr
 |_,[],fr=>fr
 |i,v :: r,fr=>frameOf (i+1) r (fr.set i v)
noncomputable def gbody (call:GCall) (m:Nat) (fn:GFun) (args:List Value) (H:GHeap):Option (Value × GHeap):=
 match gcode call m fn.body (frameOf 0 args .nil) H with
 |some (.normal,fr,H')|some (.ret,fr,H')=>(gresults fr H' fn.rets).map fun l=>(gone l,H')
 |_=>none
inductive GEnt where
 |fn (g:GFun)
 |pure (g:GFun)
 |twin (f:FuncId)
 |lib (run:List Value→Option Value)
 |ext (run:List Value→GHeap→Option (Value × GHeap))
def litVal:Value→Bool
 |.tuple cs=>cs.all litOk
 |v=>litOk v
def gRoot (_:GHeap):GHeap:=⟨.nil,0,0⟩
noncomputable def gcall (G:FuncId→Option GEnt) (m:Nat):Nat→GCall
 |0,_,_,_=>none
 |d+1,f,args,H=>match G f with
  |some (.fn g)=>gbody (gcall G m d) m g args H
  |some (.pure g)=>if args.all litOk then
   match gbody (gcall G m d) m g args (gRoot H) with
   |some (v,_)=>if litVal v then some (v,H) else none
   |none=>none
   else none
  |some (.twin g)=>gcall G m d g args H
  |some (.lib run)=>if args.all litOk then
   match run args with
   |some v=>if litVal v then some (v,H) else none
   |none=>none
   else none
  |some (.ext run)=>run args H
  |none=>none
end
end Go.Gh
namespace Go.Gh
set_option linter.unusedVariables false
set_option linter.unusedSimpArgs false
open Go.RowKit
structure GLoc where
 block:Nat
 off:Nat
 unit:Nat
 size:Nat
abbrev Inj:=Nat→Option GLoc
def Inj.le (ι ι':Inj):Prop:=∀ i l,ι i=some l→ι' i=some l
theorem Inj.le.refl (ι:Inj):ι.le ι:=fun _ _ h=>h
theorem Inj.le.trans {a b c:Inj} (h:a.le b) (k:b.le c):a.le c:=fun i l e=>k i l (h i l e)
def Inj.upd (ι:Inj) (n:Nat) (L:GLoc):Inj:=fun i=>if i=n then some L else ι i
theorem Inj.upd_same (ι:Inj) (n:Nat) (L:GLoc):ι.upd n L n=some L:=by simp [Inj.upd]
theorem Inj.upd_ne (ι:Inj) {n i:Nat} (L:GLoc) (h:i≠n):ι.upd n L i=ι i:=by simp [Inj.upd,h]
theorem Inj.le_upd {ι:Inj} {n:Nat} (L:GLoc) (h:ι n=none):ι.le (ι.upd n L):=fun i l e=>by
 by_cases hi:i=n
 ·subst hi;rw [h] at e;cases e
 ·rw [Inj.upd_ne _ _ hi];exact e
inductive VR (ι:Inj):Value→Value→Prop
 |lit {v:Value} (h:litFlat v=true):VR ι v v
 |ptr {i o:Nat} {l:GLoc} (h:ι i=some l):VR ι (.pointer (some ⟨i,o,none⟩)) (.pointer (some ⟨l.block,l.off+o,none⟩))
 |mp {i:Nat} {l:GLoc} (h:ι i=some l):VR ι (.map (some i)) (.map (some l.block))
 |slV {x y:Addr} {gc:Nat} (h:gc≤1):VR ι (.slice (some x) 0 gc) (.slice (some y) 0 0)
 |sl {i o n gc c:Nat} {l:GLoc} (h:ι i=some l) (hn:n≤c) (hg:gc=0∨gc=c+1) (hb:l.unit=0∨l.off+o+c * l.unit≤l.size):
  VR ι (.slice (some ⟨i,o,none⟩) n gc) (.slice (some ⟨l.block,l.off+o,none⟩) n c)
 |func {fn:Fn} {a b a' b':Array Value} (hs:a.size=a'.size) (h:∀ j (h1:j < a.size) (h2:j < a'.size),VR ι a[j] a'[j])
  (ht:b.size=b'.size) (k:∀ j (h1:j < b.size) (h2:j < b'.size),VR ι b[j] b'[j]):VR ι (.func fn a b) (.func fn a' b')
 |agg {cs ds:Array Value} (hs:cs.size=ds.size) (h:∀ j (h1:j < cs.size) (h2:j < ds.size),VR ι cs[j] ds[j]):VR ι (.agg cs) (.agg ds)
 |tup {cs ds:Array Value} (hs:cs.size=ds.size) (h:∀ j (h1:j < cs.size) (h2:j < ds.size),VR ι cs[j] ds[j]):VR ι (.tuple cs) (.tuple ds)
theorem VR.mono {ι ι':Inj} (hle:ι.le ι') {v v':Value} (h:VR ι v v'):VR ι' v v':=by
 induction h with
 |lit h=>exact .lit h
 |ptr h=>exact .ptr (hle _ _ h)
 |mp h=>exact .mp (hle _ _ h)
 |slV h=>exact .slV h
 |sl h hn hg hb=>exact .sl (hle _ _ h) hn hg hb
 |func hs _ ht _ ih ik=>exact .func hs ih ht ik
 |agg hs _ ih=>exact .agg hs ih
 |tup hs _ ih=>exact .tup hs ih
def VRs (ι:Inj) (l l':List Value):Prop:=l.length=l'.length∧∀ (j:Nat) v,l[j]? =some v→∃ v',l'[j]? =some v'∧VR ι v v'
section
variable {ι ι':Inj}
theorem VRs.nil:VRs ι [] []:=⟨rfl,by simp⟩
theorem VRs.cons {v v':Value} {l l':List Value} (h:VR ι v v') (k:VRs ι l l'):VRs ι (v :: l) (v' :: l'):=by
 refine ⟨by simp [k.1],fun j u hu=>?_⟩
 cases j with
 |zero=>simp at hu;subst hu;exact ⟨v',by simp,h⟩
 |succ j=>simpa using k.2 j u (by simpa using hu)
theorem VRs.cons_inv {v:Value} {l l':List Value} (h:VRs ι (v :: l) l'):∃ v' r,l'=v' :: r∧VR ι v v'∧VRs ι l r:=by
 cases l' with
 |nil=>have:=h.1;simp at this
 |cons v' r=>
  obtain ⟨u,hu,hv⟩:=h.2 0 v (by simp)
  simp at hu
  subst hu
  exact ⟨_,_,rfl,hv,by simpa using h.1,fun j u hu=>by simpa using h.2 (j+1) u (by simpa using hu)⟩
theorem VRs.nil_inv {l':List Value} (h:VRs ι [] l'):l'=[]:=List.eq_nil_of_length_eq_zero h.1.symm
theorem VRs.mono {l l':List Value} (h:VRs ι l l') (hle:ι.le ι'):VRs ι' l l':=⟨h.1,fun j v hv=>let ⟨v',a,b⟩:=h.2 j v hv;⟨v',a,b.mono hle⟩⟩
theorem VRs.append {a a' b b':List Value} (h:VRs ι a a') (k:VRs ι b b'):VRs ι (a ++ b) (a' ++ b'):=by
 induction a generalizing a' with
 |nil=>obtain rfl:=h.nil_inv;exact k
 |cons v r ih=>obtain ⟨v',r',rfl,h1,h2⟩:=h.cons_inv;exact (ih h2).cons h1 |> fun x=>x
theorem VRs.take {a a':List Value} (h:VRs ι a a') (n:Nat):VRs ι (a.take n) (a'.take n):=by
 refine ⟨by simp [h.1],fun j v hv=>?_⟩
 rw [List.getElem?_take] at hv
 split at hv
 ·rename_i hj
  obtain ⟨v',h1,h2⟩:=h.2 j v hv
  exact ⟨v',by rw [List.getElem?_take,if_pos hj,h1],h2⟩
 ·cases hv
theorem VRs.drop {a a':List Value} (h:VRs ι a a') (n:Nat):VRs ι (a.drop n) (a'.drop n):=by
 refine ⟨by simp [h.1],fun j v hv=>?_⟩
 rw [List.getElem?_drop] at hv
 obtain ⟨v',h1,h2⟩:=h.2 _ v hv
 exact ⟨v',by rw [List.getElem?_drop,h1],h2⟩
theorem VRs.set {a a':List Value} (h:VRs ι a a') (n:Nat) {v v':Value} (k:VR ι v v'):VRs ι (a.set n v) (a'.set n v'):=by
 refine ⟨by simp [h.1],fun j u hu=>?_⟩
 rw [List.getElem?_set] at hu
 split at hu
 ·subst_vars
  split at hu
  ·rename_i hl;simp at hu;subst hu;exact ⟨v',by simp [← h.1,hl],k⟩
  ·cases hu
 ·rename_i hne
  obtain ⟨u',h1,h2⟩:=h.2 j u hu
  exact ⟨u',by rw [List.getElem?_set,if_neg hne,h1],h2⟩
theorem VRs.arr {l l':List Value} (h:VRs ι l l'):∀ j (h1:j < l.toArray.size) (h2:j < l'.toArray.size),VR ι l.toArray[j] l'.toArray[j]:=by
 intro j h1 h2
 have h1':j < l.length:=by simpa using h1
 obtain ⟨v',e,k⟩:=h.2 j l[j] (List.getElem?_eq_getElem h1')
 have h2':j < l'.length:=by simpa using h2
 rw [List.getElem?_eq_getElem h2'] at e
 cases e
 simpa using k
theorem VRs.of_arr {a a':Array Value} (hs:a.size=a'.size) (h:∀ j (h1:j < a.size) (h2:j < a'.size),VR ι a[j] a'[j]):VRs ι a.toList a'.toList:=by
 refine ⟨by simpa using hs,fun j v hv=>?_⟩
 obtain ⟨h1,rfl⟩:=List.getElem?_eq_some_iff.1 hv
 have h1':j < a.size:=by simpa using h1
 exact ⟨a'[j]'(by omega),by simp [show j < a'.size by omega],by simpa using h j h1' (by omega)⟩
theorem VRs.size {a a':List Value} (h:VRs ι a a'):a'.length=a.length:=h.1.symm
theorem VR.agg_inv {cs:Array Value} {v':Value} (h:VR ι (.agg cs) v'):∃ ds,v'=.agg ds∧VRs ι cs.toList ds.toList:=by
 cases h with
 |lit h=>simp [litFlat] at h
 |agg hs k=>exact ⟨_,rfl,.of_arr hs k⟩
theorem VR.tup_inv {cs:Array Value} {v':Value} (h:VR ι (.tuple cs) v'):∃ ds,v'=.tuple ds∧VRs ι cs.toList ds.toList:=by
 cases h with
 |lit h=>simp [litFlat] at h
 |tup hs k=>exact ⟨_,rfl,.of_arr hs k⟩
theorem VR.int_inv {k:IntKind} {n:Int} {v':Value} (h:VR ι (.int k n) v'):v'=.int k n:=by cases h;rfl
theorem VR.bool_inv {b:Bool} {v':Value} (h:VR ι (.bool b) v'):v'=.bool b:=by cases h;rfl
theorem VR.str_inv {s:ByteArray} {v':Value} (h:VR ι (.string s) v'):v'=.string s:=by cases h;rfl
theorem VR.ptr_inv {i o:Nat} {v':Value} (h:VR ι (.pointer (some ⟨i,o,none⟩)) v'):∃ l,ι i=some l∧v'=.pointer (some ⟨l.block,l.off+o,none⟩):=by
 cases h with
 |lit h=>simp [litFlat] at h
 |ptr h=>exact ⟨_,h,rfl⟩
theorem VR.mp_inv {i:Nat} {v':Value} (h:VR ι (.map (some i)) v'):∃ l,ι i=some l∧v'=.map (some l.block):=by
 cases h with
 |lit h=>simp [litFlat] at h
 |mp h=>exact ⟨_,h,rfl⟩
theorem VR.mpN_inv {v':Value} (h:VR ι (.map none) v'):v'=.map none:=by cases h;rfl
theorem VR.ptrN_inv {v':Value} (h:VR ι (.pointer none) v'):v'=.pointer none:=by cases h;rfl
theorem VR.ptrS_inv {a:Addr} {v':Value} (h:VR ι (.pointer (some a)) v'):∃ b,v'=.pointer (some b):=by
 cases h with
 |lit h=>simp [litFlat] at h
 |ptr h=>exact ⟨_,rfl⟩
theorem VR.slS_inv {a:Addr} {n c:Nat} {v':Value} (h:VR ι (.slice (some a) n c) v'):∃ b c',v'=.slice (some b) n c':=by
 cases h with
 |lit h=>simp [litFlat] at h
 |slV h=>exact ⟨_,_,rfl⟩
 |sl h=>exact ⟨_,_,rfl⟩
theorem VR.slN_inv {n c:Nat} {v':Value} (h:VR ι (.slice none n c) v'):n=0∧c=0∧v'=.slice none 0 0:=by
 cases h with
 |lit h=>simp [litFlat] at h;obtain ⟨rfl,rfl⟩:=h;exact ⟨rfl,rfl,rfl⟩
theorem VR.func_inv {fn:Fn} {a b:Array Value} {v':Value} (h:VR ι (.func fn a b) v'):∃ a' b',v'=.func fn a' b'∧VRs ι a.toList a'.toList∧VRs ι b.toList b'.toList:=by
 cases h with
 |lit h=>simp [litFlat] at h
 |func hs h ht k=>exact ⟨_,_,rfl,.of_arr hs h,.of_arr ht k⟩
theorem VR.agg_of {l l':List Value} (h:VRs ι l l'):VR ι (.agg l.toArray) (.agg l'.toArray):=.agg (by simpa using h.1) h.arr
theorem VR.tup_of {l l':List Value} (h:VRs ι l l'):VR ι (.tuple l.toArray) (.tuple l'.toArray):=.tup (by simpa using h.1) h.arr
theorem flatV_lit {v:Value} (h:litFlat v=true):flatV v=true:=by
 cases v<;>simp_all [litFlat,flatV]
theorem VR.flat {v v':Value} (h:VR ι v v') (hf:flatV v=true):flatV v'=true∧v'.oneCell'=true:=by
 cases h with
 |lit h=>cases v<;>simp_all [flatV,Value.oneCell']
 |_=>simp_all [flatV,Value.oneCell']
theorem VR.flat_cells {v:Value} (hf:flatV v=true):v.cells.toList=[v]:=by
 cases v<;>simp_all [flatV,Value.cells]
theorem VR.cells {v v':Value} (h:VR ι v v') (hf:∀ u ∈ v.cells.toList,flatV u=true):VRs ι v.cells.toList v'.cells.toList:=by
 cases h with
 |agg hs k=>exact VRs.of_arr hs k
 |tup hs k=>simp [Value.cells,flatV] at hf
 |lit h=>
  have:=flatV_lit h
  rw [VR.flat_cells this];exact .cons (.lit h) .nil
 |ptr h=>exact .cons (.ptr h) .nil
 |mp h=>exact .cons (.mp h) .nil
 |slV h=>exact .cons (.slV h) .nil
 |sl h hn hg hb=>exact .cons (.sl h hn hg hb) .nil
 |func hs h ht k=>exact .cons (.func hs h ht k) .nil
theorem VRs.lits {l:List Value} (h:∀ v ∈ l,litFlat v=true):VRs ι l l:=⟨rfl,fun j v hv=>⟨v,hv,.lit (h v (List.mem_of_getElem? hv))⟩⟩
theorem VR.litOk {v:Value} (h:litOk v=true):VR ι v v:=by
 cases v<;>first
  |exact .lit h
  |skip
 ·rename_i cs
  simp only [Gh.litOk,Array.all_eq_true] at h
  exact .agg rfl fun j h1 _=>.lit (h j h1)
 ·rename_i cs
  simp only [Gh.litOk,Array.isEmpty_iff] at h
  subst h
  exact .tup rfl fun j h1 _=>by simp at h1
theorem VRs.flat {l l':List Value} (h:VRs ι l l') (hf:∀ v ∈ l,flatV v=true):∀ v ∈ l',v.oneCell'=true:=by
 intro v hv
 obtain ⟨j,hj⟩:=List.getElem?_of_mem hv
 have hl:=(List.getElem?_eq_some_iff.1 hj).1
 have hl':j < l.length:=by have:=h.1;omega
 obtain ⟨u,hu,hr⟩:=h.2 j l[j] (List.getElem?_eq_getElem hl')
 rw [hj] at hu
 cases hu
 exact (hr.flat (hf _ (List.getElem_mem hl'))).2
end
def GObj.owned:GObj→Bool
 |.cells _ _ own=>own
 |.iter _ _=>true
 |.dict _=>true
 |.dead _=>false
def GObj.live:GObj→Bool
 |.dead _=>false
 |_=>true
def TyOk (P:Program) (u:Nat) (t:TypeId) (off size:Nat):Prop:=(u=257→t=P.rt.byte)∧(u=258→t=gBT P∧off=0∧size=2)
theorem TyOk.zero {P:Program} {t:TypeId} {off size:Nat}:TyOk P 0 t off size:=⟨fun h=>absurd h (by decide),fun h=>absurd h (by decide)⟩
theorem TyOk.alloc {P:Program} {e:TypeId} {n:Nat}:TyOk P (if e=gBT P∧n=2 then 258 else 0) e 0 n:=by
 split
 ·rename_i hc;exact ⟨fun h=>absurd h (by decide),fun _=>⟨hc.1,rfl,hc.2⟩⟩
 ·exact TyOk.zero
section
variable (P:Program) (base lim:Nat) (ι:Inj)
def ObjR (i:Nat) (l:GLoc) (w:World):GObj→Prop
 |.dead u=>l.unit=usz u
 |.iter s pos=>l.unit=0∧l.off=0∧w.heap[l.block]? =some (.stringIter s pos)∧(lim≤i→base≤l.block)
 |.dict es=>l.unit=0∧l.off=0∧(∃ ms clock,w.heap[l.block]? =some (.map ms clock)∧ms.toList.map (fun e=>(e.key,e.val))=es)∧(∀ e ∈ es,litFlat e.2=true)∧(lim≤i→base≤l.block)
 |.cells cs u own=>l.unit=usz u∧(∀ (j:Nat) v,cs[j]? =some v→flatV v=true∧∃ v',w.cell? ⟨l.block,l.off+j,none⟩=some v'∧VR ι v v')∧
  (own=true→lim≤i→base≤l.block∧l.off+cs.length≤l.size∧∃ C t fr,w.heap[l.block]? =some (.cells C t fr)∧C.size=l.size∧(fr.1=fr.2∨C.size≤fr.1)∧TyOk P u t l.off l.size)
structure HR (t:Tr GObj) (w:World):Prop where
 low:base≤w.heap.size
 blk:∀ i l,ι i=some l→l.block < w.heap.size
 obj:∀ i l o,ι i=some l→t.get i=some o→ObjR P base lim ι i l w o
 sep:∀ i l o j l' o',ι i=some l→t.get i=some o→ι j=some l'→t.get j=some o'→i≠j→lim≤i→o.owned=true→o'.live=true→l'.block≠l.block
 glob:∀ g,gOn P g=true→∃ l,ι g=some l∧l.block=g∧l.off=0
 door:gN P≤base∧gT P w
end
def Le (w w':World):Prop:=Below w.heap.size w w'
section
variable {P:Program} {base lim:Nat} {ι ι':Inj} {t t':Tr GObj} {w w' w'':World}
theorem Le.refl (w:World):Le w w:=Below.refl _ _
theorem Le.trans (h:Le w w') (k:Le w' w''):Le w w'':=Below.trans h (k.mono h.size)
theorem Le.drew (w:World):Le w w.drew:=(Below.refl _ w).drew
theorem Le.alloc (w:World) (o:Obj):Le w (w.alloc o):=(Below.refl _ w).alloc (Nat.le_refl _) o
theorem cell_same {a:Addr} (h:w'.heap[a.block]? =w.heap[a.block]?):w'.cell? a=w.cell? a:=World.cell?_of_block h
theorem ObjR.keep {i:Nat} {l:GLoc} {o:GObj} (h:ObjR P base lim ι i l w o) (hle:ι.le ι') (hw:w'.heap[l.block]? =w.heap[l.block]?):ObjR P base lim ι' i l w' o:=by
 cases o with
 |dead u=>exact h
 |iter s pos=>obtain ⟨h1,h2,h3,h4⟩:=h;exact ⟨h1,h2,by rw [hw];exact h3,h4⟩
 |dict es=>obtain ⟨h1,h2,h3,h4,h5⟩:=h;exact ⟨h1,h2,by rw [hw];exact h3,h4,h5⟩
 |cells cs u own=>
  obtain ⟨h1,h2,h3⟩:=h
  refine ⟨h1,fun j v hv=>?_,fun a b=>?_⟩
  ·obtain ⟨h4,v',h5,h6⟩:=h2 j v hv
   exact ⟨h4,v',by rw [cell_same (a:=⟨l.block,l.off+j,none⟩) hw];exact h5,h6.mono hle⟩
  ·obtain ⟨h4,h4',C,ty,fr,h5,h6⟩:=h3 a b
   exact ⟨h4,h4',C,ty,fr,by rw [hw];exact h5,h6⟩
theorem ObjR.kill {i:Nat} {l:GLoc} {o:GObj} (h:ObjR P base lim ι i l w o):ObjR P base lim ι i l w (.dead o.unit):=by
 cases o with
 |dead u=>exact h
 |iter s pos=>exact h.1.trans (by simp [GObj.unit,usz])
 |dict es=>exact h.1.trans (by simp [GObj.unit,usz])
 |cells cs u own=>exact h.1
theorem HR.le (h:HR P base lim ι t w) (hl:Le w w'):HR P base lim ι t w':=
 ⟨Nat.le_trans h.low hl.size,fun i l e=>Nat.lt_of_lt_of_le (h.blk i l e) hl.size,fun i l o e f=>(h.obj i l o e f).keep (Inj.le.refl _) (hl.block _ (h.blk i l e)),h.sep,h.glob,h.door.1,gT_keep h.door.2 fun b hb=>hl.block b (by have:=h.low;have:=h.door.1;omega)⟩
theorem HR.new (h:HR P base lim ι t w) {n:Nat} {L:GLoc} {o:GObj} (hn:ι n=none) (hfree:∀ j l o',ι j=some l→t.get j=some o'→o'.live=true→l.block≠L.block)
 (hsz:w.heap.size≤w'.heap.size) (hw:∀ k,k < w.heap.size→k≠L.block→w'.heap[k]? =w.heap[k]?) (hL:L.block < w'.heap.size) (hLb:base≤L.block) (ho:ObjR P base lim (ι.upd n L) n L w' o):
 HR P base lim (ι.upd n L) (t.set n o) w':=by
 have hle:=Inj.le_upd L hn
 refine ⟨Nat.le_trans h.low hsz,fun i l e=>?_,fun i l o' e f=>?_,fun i l o1 j l' o2 e f e' f' hij hlim h1 h2=>?_,fun g hg=>?_,h.door.1,gT_keep h.door.2 fun b hb=>hw b (by have:=h.low;have:=h.door.1;omega) (by have:=h.door.1;omega)⟩
 ·by_cases hi:i=n
  ·subst hi;rw [Inj.upd_same] at e;cases e;exact hL
  ·rw [Inj.upd_ne _ _ hi] at e;exact Nat.lt_of_lt_of_le (h.blk i l e) hsz
 ·by_cases hi:i=n
  ·subst hi
   rw [Inj.upd_same] at e;cases e
   rw [Tr.get_set_same] at f;cases f
   exact ho
  ·rw [Inj.upd_ne _ _ hi] at e
   rw [Tr.get_set_ne _ _ (Ne.symm hi)] at f
   have hr:=h.obj i l o' e f
   cases hlv:o'.live with
   |true=>exact hr.keep hle (hw _ (h.blk i l e) (hfree i l o' e f hlv))
   |false=>cases o'<;>first|exact hr|(simp [GObj.live] at hlv)
 ·by_cases hi:i=n
  ·subst hi
   rw [Inj.upd_same] at e;cases e
   rw [Inj.upd_ne _ _ (Ne.symm hij)] at e'
   rw [Tr.get_set_ne _ _ hij] at f'
   exact hfree j l' o2 e' f' h2
  ·rw [Inj.upd_ne _ _ hi] at e
   rw [Tr.get_set_ne _ _ (Ne.symm hi)] at f
   by_cases hj:j=n
   ·subst hj
    rw [Inj.upd_same] at e';cases e'
    refine Ne.symm (hfree i l o1 e f ?_)
    cases o1<;>simp_all [GObj.owned,GObj.live]
   ·rw [Inj.upd_ne _ _ hj] at e'
    rw [Tr.get_set_ne _ _ (Ne.symm hj)] at f'
    exact h.sep i l o1 j l' o2 e f e' f' hij hlim h1 h2
 ·obtain ⟨l,e,k⟩:=h.glob g hg
  exact ⟨l,hle _ _ e,k⟩
theorem HR.fresh (h:HR P base lim ι t w) {n:Nat} {L:GLoc} {o:GObj} (hn:ι n=none) (hl:Le w w') (hL:w.heap.size≤L.block) (hL':L.block < w'.heap.size)
 (ho:ObjR P base lim (ι.upd n L) n L w' o):HR P base lim (ι.upd n L) (t.set n o) w':=
 h.new hn (fun j l o' e _ _=>by have:=h.blk j l e;omega) hl.size (fun k hk _=>hl.block k hk) hL' (Nat.le_trans h.low hL) ho
theorem HR.turn (h:HR P base lim ι t w) {i:Nat} {l:GLoc} {o o':GObj} (hi:ι i=some l) (ht:t.get i=some o) (hlim:lim≤i) (hown:o.owned=true)
 (hsz:w'.heap.size=w.heap.size) (hw:∀ k,k≠l.block→w'.heap[k]? =w.heap[k]?) (ho:ObjR P base lim ι i l w' o'):HR P base lim ι (t.set i o') w':=by
 have hlb:base≤l.block:=by
  have:=h.obj i l o hi ht
  cases o with
  |dead u=>simp [GObj.owned] at hown
  |iter s pos=>exact this.2.2.2 hlim
  |dict es=>exact this.2.2.2.2 hlim
  |cells cs u own=>exact (this.2.2 (by simpa [GObj.owned] using hown) hlim).1
 refine ⟨by rw [hsz];exact h.low,fun j l' e=>by rw [hsz];exact h.blk j l' e,fun j l' o2 e f=>?_,fun a la oa b lb ob e f e' f' hab hl h1 h2=>?_,h.glob,h.door.1,gT_keep h.door.2 fun b hb=>hw b (by have:=h.door.1;omega)⟩
 ·by_cases hj:j=i
  ·subst hj
   rw [hi] at e;cases e
   rw [Tr.get_set_same] at f;cases f
   exact ho
  ·rw [Tr.get_set_ne _ _ (Ne.symm hj)] at f
   have hr:=h.obj j l' o2 e f
   cases hlv:o2.live with
   |true=>exact hr.keep (Inj.le.refl _) (hw _ (h.sep i l o j l' o2 hi ht e f (Ne.symm hj) hlim hown hlv))
   |false=>cases o2<;>first|exact hr|(simp [GObj.live] at hlv)
 ·have ha:∃ o1,t.get a=some o1∧o1.owned=true:=by
   by_cases hai:a=i
   ·subst hai;exact ⟨o,ht,hown⟩
   ·rw [Tr.get_set_ne _ _ (Ne.symm hai)] at f;exact ⟨oa,f,h1⟩
  have hb:∃ o2,t.get b=some o2∧o2.live=true:=by
   by_cases hbi:b=i
   ·subst hbi;exact ⟨o,ht,by cases o<;>simp_all [GObj.owned,GObj.live]⟩
   ·rw [Tr.get_set_ne _ _ (Ne.symm hbi)] at f';exact ⟨ob,f',h2⟩
  obtain ⟨o1,g1,g2⟩:=ha
  obtain ⟨o2,g3,g4⟩:=hb
  exact h.sep a la o1 b lb o2 e g1 e' g3 hab hl g2 g4
theorem HR.kill (h:HR P base lim ι t w) {i:Nat} {o:GObj} (ht:t.get i=some o):HR P base lim ι (t.set i (.dead o.unit)) w:=by
 refine ⟨h.low,h.blk,fun j l' o2 e f=>?_,fun a la oa b lb ob e f e' f' hab hl h1 h2=>?_,h.glob,h.door⟩
 ·by_cases hj:j=i
  ·subst hj
   rw [Tr.get_set_same] at f;cases f
   exact (h.obj j l' o e ht).kill
  ·rw [Tr.get_set_ne _ _ (Ne.symm hj)] at f
   exact h.obj j l' o2 e f
 ·have hai:a≠i:=by rintro rfl;rw [Tr.get_set_same] at f;cases f;simp [GObj.owned] at h1
  have hbi:b≠i:=by rintro rfl;rw [Tr.get_set_same] at f';cases f';simp [GObj.live] at h2
  rw [Tr.get_set_ne _ _ (Ne.symm hai)] at f
  rw [Tr.get_set_ne _ _ (Ne.symm hbi)] at f'
  exact h.sep a la oa b lb ob e f e' f' hab hl h1 h2
theorem HR.some_ (h:HR P base lim ι t w) {ι1:Inj} (hle:ι1.le ι) (hle':∀ i l,ι1 i=some l→ι i=some l) (ht:∀ i l o,ι1 i=some l→t'.get i=some o→t.get i=some o∨∃ o1,t.get i=some o1∧o=.dead o1.unit)
 (hv:∀ i l o,ι1 i=some l→t'.get i=some o→o.live=true→ObjR P base lim ι1 i l w o) (hg:∀ g,gOn P g=true→∃ l,ι1 g=some l∧l.block=g∧l.off=0):HR P base lim ι1 t' w:=by
 refine ⟨h.low,fun i l e=>h.blk i l (hle _ _ e),fun i l o e f=>?_,fun a la oa b lb ob e f e' f' hab hl h1 h2=>?_,hg,h.door⟩
 ·cases hlv:o.live with
  |true=>exact hv i l o e f hlv
  |false=>
   rcases ht i l o e f with h1|⟨o1,h1,h2⟩
   ·have:=h.obj i l o (hle _ _ e) h1
    cases o<;>first|exact this|(simp [GObj.live] at hlv)
   ·have:=(h.obj i l o1 (hle _ _ e) h1).kill
    rw [h2];exact this
 ·have ha:t.get a=some oa:=by
   rcases ht a la oa e f with g|⟨o1,_,g2⟩
   ·exact g
   ·subst g2;simp [GObj.owned] at h1
  have hb:t.get b=some ob:=by
   rcases ht b lb ob e' f' with g|⟨o1,_,g2⟩
   ·exact g
   ·subst g2;simp [GObj.live] at h2
  exact h.sep a la oa b lb ob (hle _ _ e) ha (hle _ _ e') hb hab hl h1 h2
end
def FR (ι:Inj) (fr:Fr) (a:Act):Prop:=a.defers=[]∧∀ n v,fr.get n=some v→∃ v',a.tmps[n]? =some v'∧VR ι v v'
section
variable {ι ι':Inj} {fr:Fr} {a:Act}
theorem FR.mono (h:FR ι fr a) (hle:ι.le ι'):FR ι' fr a:=⟨h.1,fun n v e=>let ⟨v',h1,h2⟩:=h.2 n v e;⟨v',h1,h2.mono hle⟩⟩
theorem FR.put (h:FR ι fr a) {v v':Value} (hv:VR ι v v') {dst:Option Nat} (hd:∀ d,dst=some d→d < a.tmps.size):FR ι (gput fr dst v) (a.put dst v'):=by
 cases dst with
 |none=>exact h
 |some d=>
  refine ⟨h.1,fun n u e=>?_⟩
  have hd:=hd d rfl
  simp only [gput,Tr.get_set] at e
  by_cases hdn:d=n
  ·subst hdn
   rw [if_pos rfl] at e
   cases e
   exact ⟨v',by simp [Act.put,hd],hv⟩
  ·rw [if_neg hdn] at e
   obtain ⟨u',h1,h2⟩:=h.2 n u e
   exact ⟨u',by simp [Act.put,Array.getElem?_setIfInBounds_ne hdn,h1],h2⟩
theorem put_size (a:Act) (dst:Option Nat) (v:Value):(a.put dst v).tmps.size=a.tmps.size:=by cases dst<;>simp [Act.put]
end
end Go.Gh
namespace Go.Gh
set_option linter.unusedVariables false
set_option linter.unusedSimpArgs false
open Go.RowKit
section
variable {P:Program} {base lim:Nat} {ι:Inj} {H:GHeap} {w:World}
theorem cArg_ok {x:Operand} {a:GArg} {fr:Fr} {act:Act} {v:Value} {t:Tr GObj} (hc:cArg P x=some a) (hv:a.ev fr=some v) (hfr:FR ι fr act) (h:HR P base lim ι t w):VR ι v (act.eval x):=by
 cases x with
 |tmp n=>
  simp only [cArg,Option.some.injEq] at hc
  subst hc
  obtain ⟨v',h1,h2⟩:=hfr.2 n v hv
  simp only [Act.eval,Array.getD_eq_getD_getElem?,h1,Option.getD_some]
  exact h2
 |const u=>
  simp only [cArg] at hc
  split at hc
  ·rename_i hl
   cases hc
   cases hv
   exact VR.litOk hl
  ·cases hc
 |global g=>
  simp only [cArg] at hc
  split at hc
  ·rename_i hg
   cases hc
   cases hv
   obtain ⟨l,h1,h2,h3⟩:=h.glob g hg
   have:=VR.ptr (o:=0) h1
   rw [h2,h3] at this
   exact this
  ·cases hc
 |func f=>
  simp only [cArg,Option.some.injEq] at hc
  subst hc
  cases hv
  exact .func rfl (by simp) rfl (by simp)
theorem HR.cell (h:HR P base lim ι H.t w) {i:Nat} {l:GLoc} {cs:List Value} (hi:ι i=some l) (hc:H.cs i=some cs) {j:Nat} {v:Value} (hj:cs[j]? =some v):
 flatV v=true∧∃ v',w.cell? ⟨l.block,l.off+j,none⟩=some v'∧VR ι v v':=by
 unfold GHeap.cs at hc
 split at hc
 ·rename_i u own ho
  cases hc
  exact (h.obj i l _ hi ho).2.1 j v hj
 ·cases hc
theorem HR.row (h:HR P base lim ι H.t w) {i:Nat} {l:GLoc} {cs:List Value} (hi:ι i=some l) (hc:H.cs i=some cs) (o n:Nat) (hn:o+n≤cs.length):
 ∃ ds:List Value,ds.length=n∧VRs ι ((cs.drop o).take n) ds∧(∀ j v,ds[j]? =some v→w.cell? ((⟨l.block,l.off+o,none⟩:Addr).add j)=some v)∧∀ v ∈ ds,v.oneCell'=true:=by
 have key:∀ j,j < n→∃ v',w.cell? ⟨l.block,l.off+(o+j),none⟩=some v'∧VR ι (cs.getD (o+j) undef) v'∧v'.oneCell'=true:=by
  intro j hj
  have hlt:o+j < cs.length:=by omega
  obtain ⟨hf,v',h1,h2⟩:=h.cell hi hc (List.getElem?_eq_getElem hlt)
  exact ⟨v',h1,by simpa [List.getD,hlt] using h2,(h2.flat hf).2⟩
 refine ⟨(List.range n).map fun j=>(w.cell? ⟨l.block,l.off+(o+j),none⟩).getD undef,by simp,⟨by simp;omega,fun j v hv=>?_⟩,fun j v hv=>?_,fun v hv=>?_⟩
 ·rw [List.getElem?_take] at hv
  split at hv
  ·rename_i hj
   obtain ⟨v',h1,h2,_⟩:=key j hj
   rw [List.getElem?_drop] at hv
   refine ⟨v',by simp [hj,h1],?_⟩
   rw [List.getD,hv] at h2
   exact h2
  ·cases hv
 ·have hj:j < n:=by have:=(List.getElem?_eq_some_iff.1 hv).1;simpa using this
  obtain ⟨v',h1,_,_⟩:=key j hj
  simp [hj,h1] at hv
  subst hv
  have:(⟨l.block,l.off+o,none⟩:Addr).add j=⟨l.block,l.off+(o+j),none⟩:=by unfold Addr.add;split<;>simp_all [Nat.add_assoc]
  rw [this,h1]
 ·obtain ⟨j,hj,rfl⟩:=List.mem_map.1 hv
  obtain ⟨v',h1,_,h3⟩:=key j (List.mem_range.1 hj)
  rw [h1]
  exact h3
theorem szK_run {t:TypeId} {n:Nat} (h:szK P t=some n):(sizeOf t).run P w=.ok n w:=by
 unfold szK at h
 cases hi:P.info? t with
 |none=>rw [hi] at h;cases h
 |some i=>rw [hi] at h;cases h;simp [sizeOf,typeInfo,hi]
theorem ldK_some {t:TypeId} {k:Option Nat} (h:ldK P t=some k):∃ d,P.underlying t=some d∧(isAgg t).run P w=.ok k.isSome w∧∀ n,k=some n→(sizeOf t).run P w=.ok n w:=by
 unfold ldK at h
 cases hd:P.underlying t with
 |none=>rw [hd] at h;cases h
 |some d=>
  rw [hd] at h
  refine ⟨d,rfl,?_,?_⟩
  ·simp only [isAgg,Sem.run_bind,run_underlying hd,Result.andThen_ok]
   cases d<;>simp [aggD] at h<;>first
    |(subst h;rfl)
    |(obtain ⟨n,_,rfl⟩:=h;rfl)
  ·intro n hn
   subst hn
   cases d<;>simp [aggD] at h<;>exact szK_run h
theorem run_loadCells_row {a:Addr} {n:Nat} {ds:List Value} (hl:ds.length=n) (hc:∀ j v,ds[j]? =some v→w.cell? (a.add j)=some v):(loadCells a n).run P w=.ok ds.toArray w:=by
 subst hl;exact run_loadCells_list w a ds hc
theorem gld_ok (h:HR P base lim ι H.t w) {t:TypeId} {k:Option Nat} (hk:ldK P t=some k) {v v' r:Value} (hv:VR ι v v') (hr:gld k H v=some r):
 ∃ r',(Instr.loadAt t v').run P w=.ok r' w∧VR ι r r':=by
 unfold gld at hr
 split at hr
 ·rename_i i o
  obtain ⟨l,hl,rfl⟩:=hv.ptr_inv
  obtain ⟨d,hd,hag,hsz⟩:=ldK_some (w:=w) hk
  split at hr
  ·cases hr
  ·rename_i cs hcs
   cases k with
   |none=>
    simp only at hr
    obtain ⟨_,r',h1,h2⟩:=h.cell hl hcs hr
    exact ⟨r',by simp [Instr.loadAt,Instr.sureAddr,loadVar,hag,h1],h2⟩
   |some n=>
    simp only at hr
    split at hr
    ·rename_i hn
     cases hr
     obtain ⟨ds,h1,h2,h3,_⟩:=h.row hl hcs o n hn
     refine ⟨.agg ds.toArray,?_,VR.agg_of h2⟩
     simp [Instr.loadAt,Instr.sureAddr,loadVar,hag,hsz n rfl,run_loadCells_row (P:=P) h1 h3]
    ·cases hr
 ·cases hr
theorem gadd_ok {n:Nat} {v v' r:Value} (hv:VR ι v v') (hr:gadd n v=some r):∃ b o,v'=.pointer (some ⟨b,o,none⟩)∧VR ι r (.pointer (some ((⟨b,o,none⟩:Addr).add n))):=by
 unfold gadd at hr
 split at hr
 ·rename_i i o
  cases hr
  obtain ⟨l,hl,rfl⟩:=hv.ptr_inv
  refine ⟨_,_,rfl,?_⟩
  have:(⟨l.block,l.off+o,none⟩:Addr).add n=⟨l.block,l.off+(o+n),none⟩:=by unfold Addr.add;split<;>simp_all [Nat.add_assoc]
  rw [this]
  exact .ptr hl
 ·cases hr
theorem faK_ok {s:TypeId} {f n:Nat} (hk:faK P s f=some n) {b o:Nat}:(Instr.fieldAt s (.pointer (some ⟨b,o,none⟩)) f).run P w=.ok (.pointer (some ((⟨b,o,none⟩:Addr).add n))) w:=by
 unfold faK at hk
 split at hk
 ·rename_i fs hfs
  split at hk
  ·rename_i fd hfd
   split at hk
   ·rename_i m hm
    split at hk
    ·cases hk
    ·rename_i hm0
     cases hk
     have:=szK_run (w:=w) hm
     simp [Instr.fieldAt,run_underlying hfs,hfd,Instr.sureAddr,fieldPlace,this,hm0]
   ·cases hk
  ·cases hk
 ·cases hk
theorem gpart_ok {t:TypeId} {k:Option Nat} (hk:ldK P t=some k) {off:Nat} {cs cs':Array Value} {r:Value} (hv:VRs ι cs.toList cs'.toList) (hr:gpart k off (.agg cs)=some r):
 ∃ r',(part t cs' off).run P w=.ok r' w∧VR ι r r':=by
 obtain ⟨d,hd,hag,hsz⟩:=ldK_some (w:=w) hk
 cases k with
 |none=>
  simp only [gpart] at hr
  obtain ⟨r',h1,h2⟩:=hv.2 off r (by simpa using hr)
  have h1':cs'[off]? =some r':=by simpa using h1
  exact ⟨r',by simp [part,hag,h1'],h2⟩
 |some n=>
  simp only [gpart,Option.some.injEq] at hr
  subst hr
  refine ⟨.agg (cs'.extract off (off+n)),by simp [part,hag,hsz n rfl],?_⟩
  have e:∀ a:Array Value,a.extract off (off+n)=((a.toList.drop off).take n).toArray:=by
   intro a
   apply Array.ext'
   simp [Array.toList_extract,List.extract,Nat.add_sub_cancel_left]
  rw [e,e]
  exact VR.agg_of ((hv.drop off).take n)
theorem gia_ok {len:Option Nat} {size:Nat} {x x' i i' r:Value} (hx:VR ι x x') (hi:VR ι i i') (hr:gia len size x i=some r) {t:TypeId} (hk:iaK P t=some (len,size)):
 ∃ r',(Instr.indexAt t x' i').run P w=.ok r' w∧VR ι r r':=by
 unfold gia at hr
 split at hr
 ·rename_i k j
  obtain rfl:=hi.int_inv
  have hadd:∀ (b o n:Nat),(⟨b,o,none⟩:Addr).add n=⟨b,o+n,none⟩:=fun b o n=>by unfold Addr.add;split<;>simp_all
  split at hr
  ·rename_i b o n gc
   split at hr
   ·rename_i hj
    cases hr
    unfold iaK at hk
    split at hk
    ·rename_i e he
     simp only [Option.map_eq_some_iff,Prod.mk.injEq,true_and] at hk
     obtain ⟨m,hm,rfl⟩:=hk
     have hsz:=szK_run (w:=w) hm
     cases hx with
     |lit h=>simp [litFlat] at h
     |slV=>omega
     |sl hl hn hg hb=>
      rename_i c l
      refine ⟨.pointer (some ⟨l.block,l.off+(o+j.toNat * m),none⟩),?_,.ptr hl⟩
      simp [Instr.indexAt,asIntOf,run_underlying he,hj.1,hj.2,hsz,hadd,Nat.add_assoc]
    ·simp at hk
    ·cases hk
   ·cases hr
  ·rename_i n b o
   split at hr
   ·rename_i hj
    cases hr
    unfold iaK at hk
    split at hk
    ·simp at hk
    ·rename_i len' e he
     simp only [Option.map_eq_some_iff,Prod.mk.injEq,Option.some.injEq] at hk
     obtain ⟨m,hm,rfl,rfl⟩:=hk
     have hsz:=szK_run (w:=w) hm
     obtain ⟨l,hl,rfl⟩:=hx.ptr_inv
     refine ⟨.pointer (some ⟨l.block,l.off+(o+j.toNat * m),none⟩),?_,.ptr hl⟩
     simp [Instr.indexAt,asIntOf,run_underlying he,hj.1,hj.2,hsz,hadd,Nat.add_assoc,Instr.sureAddr]
    ·cases hk
   ·cases hr
  ·cases hr
 ·cases hr
theorem gix_ok {q:Option (Nat × Nat × Option Nat)} {x x' i i' r:Value} (hx:VR ι x x') (hi:VR ι i i') (hr:gix q x i=some r) {t:TypeId} (hk:ixK P t=some q):
 ∃ r',(Instr.index t x' i').run P w=.ok r' w∧VR ι r r':=by
 unfold gix at hr
 split at hr
 ·rename_i k j
  obtain rfl:=hi.int_inv
  split at hr
  ·rename_i s
   obtain rfl:=hx.str_inv
   split at hr
   ·rename_i hj
    simp only [Option.map_eq_some_iff] at hr
    obtain ⟨b,hb,rfl⟩:=hr
    unfold ixK at hk
    split at hk
    ·rename_i hs
     exact ⟨_,by simp [Instr.index,asIntOf,run_underlying hs,hj,hb],.lit rfl⟩
    ·split at hk<;>cases hk
    ·cases hk
   ·cases hr
  ·rename_i _ len size k'
   split at hr
   ·rename_i hj
    unfold ixK at hk
    split at hk
    ·cases hk
    ·rename_i len' e he
     split at hk
     ·rename_i m k2 hm hk2
      cases hk
      have hsz:=szK_run (w:=w) hm
      cases x with
      |agg cs=>
       obtain ⟨ds,rfl,hds⟩:=hx.agg_inv
       obtain ⟨r',h1,h2⟩:=gpart_ok (w:=w) hk2 hds hr
       exact ⟨r',by simp [Instr.index,asIntOf,run_underlying he,hj.1,hj.2,hsz,h1],h2⟩
      |_=>simp [gpart] at hr
     ·cases hk
    ·cases hk
   ·cases hr
  ·cases hr
 ·cases hr
end
end Go.Gh
namespace Go.Gh
set_option linter.unusedVariables false
set_option linter.unusedSimpArgs false
open Go.RowKit
section
variable {P:Program} {base lim:Nat} {ι:Inj} {H:GHeap} {w:World}
theorem eqFields_ok {D d:Nat} (IH:∀ (d:Nat) (q:EqK) (t:TypeId) (x y x' y':Value) (b:Bool),eqK P D t=some q→geqIn d q x y=some b→VR ι x x'→VR ι y y'→∀ m,D≤m→(Op.equalIn m t x' y').run P w=.ok b w)
 {xs ys xs' ys':Array Value} (hx:VRs ι xs.toList xs'.toList) (hy:VRs ι ys.toList ys'.toList):∀ (fs:List Field) (l:List (Nat × Option Nat × EqK)) (b:Bool),
 eqFields P (eqK P D) fs=some l→geqAll (geqIn d) l xs ys=some b→∀ m,D≤m→(Op.eqFields m xs' ys' fs).run P w=.ok b w
 |[],l,b,h,hb,m,hm=>by
  cases h;cases hb;rfl
 |f :: fs,l,b,h,hb,m,hm=>by
  simp only [eqFields] at h
  simp only [Op.eqFields]
  split at h
  ·rename_i hn
   rw [if_neg (by simpa using hn)]
   exact eqFields_ok IH hx hy fs l b h hb m hm
  ·rename_i hn
   rw [if_pos hn]
   split at h
   ·rename_i k q r hk hq hr
    cases h
    simp only [geqAll] at hb
    split at hb
    ·rename_i a c ha hc
     obtain ⟨a',p1,p2⟩:=gpart_ok (w:=w) hk hx ha
     obtain ⟨c',p3,p4⟩:=gpart_ok (w:=w) hk hy hc
     cases hg:geqIn d q a c with
     |none=>rw [hg] at hb;cases hb
     |some z=>
      rw [hg] at hb
      have he:=IH d q f.type a c a' c' z hq hg p2 p4 m hm
      cases z
      ·simp only at hb;cases hb;simp [p1,p3,he]
      ·simp only at hb
       have:=eqFields_ok IH hx hy fs r b hr hb m hm
       simp [p1,p3,he,this]
    ·cases hb
   ·cases h
theorem eqItems_ok {D d s:Nat} (IH:∀ (d:Nat) (q:EqK) (t:TypeId) (x y x' y':Value) (b:Bool),eqK P D t=some q→geqIn d q x y=some b→VR ι x x'→VR ι y y'→∀ m,D≤m→(Op.equalIn m t x' y').run P w=.ok b w)
 {xs ys xs' ys':Array Value} (hx:VRs ι xs.toList xs'.toList) (hy:VRs ι ys.toList ys'.toList) {e:TypeId} {k:Option Nat} {q:EqK} (hk:ldK P e=some k) (hq:eqK P D e=some q):∀ (is:List Nat) (b:Bool),
 geqAll (geqIn d) (is.map fun i=>(i * s,k,q)) xs ys=some b→∀ m,D≤m→(Op.eqItems m e s xs' ys' is).run P w=.ok b w
 |[],b,hb,m,hm=>by
  simp [geqAll] at hb;subst hb;rfl
 |i :: is,b,hb,m,hm=>by
  simp only [List.map_cons,geqAll] at hb
  simp only [Op.eqItems]
  split at hb
  ·rename_i a c ha hc
   obtain ⟨a',p1,p2⟩:=gpart_ok (w:=w) hk hx ha
   obtain ⟨c',p3,p4⟩:=gpart_ok (w:=w) hk hy hc
   cases hg:geqIn d q a c with
   |none=>rw [hg] at hb;cases hb
   |some z=>
    rw [hg] at hb
    have he:=IH d q e a c a' c' z hq hg p2 p4 m hm
    cases z
    ·simp only at hb;cases hb;simp [p1,p3,he]
    ·simp only at hb
     have:=eqItems_ok IH hx hy hk hq is b hb m hm
     simp [p1,p3,he,this]
  ·cases hb
theorem geqIn_parts {d:Nat} {l:List (Nat × Option Nat × EqK)} {x y:Value} {b:Bool} (h:geqIn d (.parts l) x y=some b):∃ d' xs ys,d=d'+1∧x=.agg xs∧y=.agg ys∧geqAll (geqIn d') l xs ys=some b:=by
 unfold geqIn at h
 split at h<;>simp_all
theorem geqIn_bool {d:Nat} {x y:Value} {b:Bool} (h:geqIn d .bool x y=some b):∃ p q,x=.bool p∧y=.bool q∧b=(p == q):=by
 unfold geqIn at h
 split at h<;>simp_all
theorem geqIn_int {d:Nat} {x y:Value} {b:Bool} (h:geqIn d .int x y=some b):∃ k p q,x=.int k p∧y=.int k q∧b=(p == q):=by
 cases x<;>first|(unfold geqIn at h;simp at h;done)|skip
 cases y<;>first|(unfold geqIn at h;simp at h;done)|skip
 rename_i k p k' q
 unfold geqIn at h
 simp only [Option.ite_none_right_eq_some,Option.some.injEq] at h
 obtain ⟨rfl,rfl⟩:=h
 exact ⟨_,_,_,rfl,rfl,rfl⟩
theorem geqIn_str {d:Nat} {x y:Value} {b:Bool} (h:geqIn d .str x y=some b):∃ p q,x=.string p∧y=.string q∧b=(p == q):=by
 unfold geqIn at h
 split at h<;>simp_all
theorem geqIn_ptr {d:Nat} {x y:Value} {b:Bool} (h:geqIn d .ptr x y=some b):(x=.pointer none∧∃ q,y=.pointer q∧b=q.isNone)∨(∃ p,x=.pointer (some p)∧y=.pointer none∧b=false):=by
 unfold geqIn at h
 split at h<;>simp_all
theorem geqIn_sl {d:Nat} {x y:Value} {b:Bool} (h:geqIn d .sl x y=some b):(∃ n c q n' c',x=.slice none n c∧y=.slice q n' c'∧b=q.isNone)∨(∃ p n c n' c',x=.slice (some p) n c∧y=.slice none n' c'∧b=false):=by
 unfold geqIn at h
 split at h<;>simp_all
theorem geqIn_fn {d:Nat} {x y:Value} {b:Bool} (h:geqIn d .fn x y=some b):(x=.nilFunc∧y=.nilFunc∧b=true)∨(x=.nilFunc∧(∃ f p q,y=.func f p q)∧b=false)∨((∃ f p q,x=.func f p q)∧y=.nilFunc∧b=false):=by
 unfold geqIn at h
 split at h<;>simp_all
theorem geqIn_map {d:Nat} {x y:Value} {b:Bool} (h:geqIn d .map x y=some b):(x=.map none∧∃ q,y=.map q∧b=q.isNone)∨(∃ p,x=.map (some p)∧y=.map none∧b=false):=by
 unfold geqIn at h
 split at h<;>simp_all
theorem VR.nilFunc_inv {v':Value} (h:VR ι .nilFunc v'):v'=.nilFunc:=by cases h;rfl
theorem geqIn_ok:∀ (D d:Nat) (q:EqK) (t:TypeId) (x y x' y':Value) (b:Bool),eqK P D t=some q→geqIn d q x y=some b→VR ι x x'→VR ι y y'→∀ m,D≤m→(Op.equalIn m t x' y').run P w=.ok b w:=by
 intro D
 induction D with
 |zero=>intro d q t x y x' y' b h;cases h
 |succ D IH=>
  intro d q t x y x' y' b h hb hx hy m hm
  obtain ⟨m,rfl⟩:∃ k,m=k+1:=⟨m - 1,by omega⟩
  simp only [eqK] at h
  split at h
  ·rename_i hu
   cases h
   obtain ⟨p,q,rfl,rfl,rfl⟩:=geqIn_bool hb
   obtain rfl:=hx.bool_inv;obtain rfl:=hy.bool_inv
   simp [Op.equalIn,run_underlying hu]
  ·rename_i hu
   cases h
   obtain ⟨k,p,q,rfl,rfl,rfl⟩:=geqIn_int hb
   obtain rfl:=hx.int_inv;obtain rfl:=hy.int_inv
   simp [Op.equalIn,run_underlying hu]
  ·rename_i hu
   cases h
   obtain ⟨p,q,rfl,rfl,rfl⟩:=geqIn_str hb
   obtain rfl:=hx.str_inv;obtain rfl:=hy.str_inv
   simp [Op.equalIn,run_underlying hu]
  ·rename_i hu
   cases h
   rcases geqIn_ptr hb with ⟨rfl,q,rfl,rfl⟩|⟨p,rfl,rfl,rfl⟩
   ·obtain rfl:=hx.ptrN_inv
    cases q with
    |none=>obtain rfl:=hy.ptrN_inv;simp [Op.equalIn,run_underlying hu]
    |some q=>obtain ⟨q',rfl⟩:=hy.ptrS_inv;simp [Op.equalIn,run_underlying hu]
   ·obtain ⟨p',rfl⟩:=hx.ptrS_inv
    obtain rfl:=hy.ptrN_inv
    simp [Op.equalIn,run_underlying hu]
  ·rename_i hu
   cases h
   rcases geqIn_sl hb with ⟨n,c,q,n',c',rfl,rfl,rfl⟩|⟨p,n,c,n',c',rfl,rfl,rfl⟩
   ·obtain ⟨rfl,rfl,rfl⟩:=hx.slN_inv
    cases q with
    |none=>obtain ⟨rfl,rfl,rfl⟩:=hy.slN_inv;simp [Op.equalIn,run_underlying hu]
    |some q=>obtain ⟨_,_,rfl⟩:=hy.slS_inv;simp [Op.equalIn,run_underlying hu]
   ·obtain ⟨_,_,rfl⟩:=hx.slS_inv
    obtain ⟨rfl,rfl,rfl⟩:=hy.slN_inv
    simp [Op.equalIn,run_underlying hu]
  ·rename_i hu
   cases h
   rcases geqIn_fn hb with ⟨rfl,rfl,rfl⟩|⟨rfl,⟨f,p,q,rfl⟩,rfl⟩|⟨⟨f,p,q,rfl⟩,rfl,rfl⟩
   ·obtain rfl:=hx.nilFunc_inv;obtain rfl:=hy.nilFunc_inv;simp [Op.equalIn,run_underlying hu]
   ·obtain rfl:=hx.nilFunc_inv;obtain ⟨_,_,rfl,_,_⟩:=hy.func_inv;simp [Op.equalIn,run_underlying hu]
   ·obtain rfl:=hy.nilFunc_inv;obtain ⟨_,_,rfl,_,_⟩:=hx.func_inv;simp [Op.equalIn,run_underlying hu]
  ·rename_i hu
   cases h
   rcases geqIn_map hb with ⟨rfl,q,rfl,rfl⟩|⟨p,rfl,rfl,rfl⟩
   ·obtain rfl:=hx.mpN_inv
    cases q with
    |none=>obtain rfl:=hy.mpN_inv;simp [Op.equalIn,run_underlying hu]
    |some q=>obtain ⟨_,_,rfl⟩:=hy.mp_inv;simp [Op.equalIn,run_underlying hu]
   ·obtain ⟨_,_,rfl⟩:=hx.mp_inv;obtain rfl:=hy.mpN_inv;simp [Op.equalIn,run_underlying hu]
  ·rename_i fs hu
   split at h
   ·cases h
   ·rename_i hst
    simp only [Option.map_eq_some_iff] at h
    obtain ⟨l,hl,rfl⟩:=h
    obtain ⟨d',xs,ys,rfl,rfl,rfl,hb⟩:=geqIn_parts hb
    obtain ⟨xs',rfl,hxs⟩:=hx.agg_inv
    obtain ⟨ys',rfl,hys⟩:=hy.agg_inv
    have hfl:P.fieldsOf t=fs:=by simp [Program.fieldsOf,hu]
    rw [run_equalIn_struct w m t xs' ys' (by rw [hfl];exact hu) (by simpa using hst),hfl]
    exact eqFields_ok IH hxs hys fs.toList _ b hl hb m (by omega)
  ·rename_i n e hu
   split at h
   ·rename_i s k q' hs hk hq
    cases h
    obtain ⟨d',xs,ys,rfl,rfl,rfl,hb⟩:=geqIn_parts hb
    obtain ⟨xs',rfl,hxs⟩:=hx.agg_inv
    obtain ⟨ys',rfl,hys⟩:=hy.agg_inv
    unfold szK at hs
    cases hi:P.info? e with
    |none=>rw [hi] at hs;cases hs
    |some i=>
     rw [hi] at hs
     cases hs
     have hc:P.cellsOf e=i.size:=by simp [Program.cellsOf,hi]
     rw [run_equalIn_array w m xs' ys' hu hi,hc]
     exact eqItems_ok IH hxs hys hk hq _ b hb m (by omega)
   ·cases h
  ·cases h
theorem eqTopK_some {t:TypeId} {q:EqK} (h:eqTopK P t=some q):eqK P 12 t=some q∧((∃ l,q=.parts l)→P.eqGuardType P.depth t=false):=by
 unfold eqTopK at h
 split at h
 ·rename_i l hl
  split at h
  ·cases h
  ·rename_i hg
   cases h
   exact ⟨hl,fun _=>by simpa using hg⟩
 ·rename_i hq
  refine ⟨h,?_⟩
  rintro ⟨l,rfl⟩
  exact absurd h (hq l)
theorem gbin_ok {op:BinOp} {t:TypeId} {X Y:Operand} {x y x' y' r:Value} (hx:VR ι x x') (hy:VR ι y y')
 (hr:gbin op (match op with|.eql|.neq=>eqTopK P t|_=>none) x y=some r):∃ r',(do eqGuard op t X Y x' y';binOp op t x' y').run P w=.ok r' w∧VR ι r r':=by
 have hguard:∀ a b:Value,(∀ c d,¬ (a=.agg c∧b=.agg d))→¬ (a=.nilIface∧b=.nilIface)→(eqGuard op t X Y a b).run P w=.ok () w:=by
  intro a b h1 h2
  have key:∀ (s1 s2:Sem Unit),(match a,b with|.nilIface,.nilIface=>s1|.agg _,.agg _=>s2|_,_=>pure ()).run P w=.ok () w:=by
   intro s1 s2
   split
   ·exact absurd ⟨rfl,rfl⟩ h2
   ·exact absurd ⟨rfl,rfl⟩ (h1 _ _)
   ·rfl
  cases op<;>first|rfl|exact key _ _
 have heq:∀ (q:EqK) (z:Bool),(op=.eql∨op=.neq)→eqTopK P t=some q→geq q x y=some z→(eqGuard op t X Y x' y').run P w=.ok () w∧(Op.equal t x' y').run P w=.ok z w:=by
  intro q z hop hq hg
  obtain ⟨h1,h2⟩:=eqTopK_some hq
  refine ⟨?_,geqIn_ok 12 12 q t x y x' y' z h1 hg hx hy _ (by unfold Op.maxDepth;omega)⟩
  by_cases hp:∃ l,q=.parts l
  ·have hgt:=h2 hp
   obtain ⟨l,rfl⟩:=hp
   obtain ⟨d',xs,ys,_,rfl,rfl,_⟩:=geqIn_parts hg
   obtain ⟨xs',rfl,_⟩:=hx.agg_inv
   obtain ⟨ys',rfl,_⟩:=hy.agg_inv
   rcases hop with rfl|rfl<;>simp [eqGuard,hgt]
  ·refine hguard _ _ ?_ ?_
   ·rintro c d ⟨rfl,rfl⟩
    cases hx with
    |lit h=>simp [litFlat] at h
    |agg=>cases q<;>simp [geq,geqIn] at hg hp
   ·rintro ⟨rfl,rfl⟩
    cases hx
    cases q<;>simp [geq,geqIn] at hg hp
 unfold gbin at hr
 split at hr
 ·rename_i k a k' b
  obtain rfl:=hx.int_inv;obtain rfl:=hy.int_inv
  have hg:=hguard (.int k a) (.int k' b) (by simp) (by simp)
  refine ⟨r,?_,?_⟩
  ·cases op<;>simp only [gshift,gint] at hr<;>(try split at hr)<;>(try split at hr)<;>first
    |(cases hr;done)
    |(cases hr;clear heq hguard;simp_all [binOp,Op.shift,Op.intArith,Op.intDiv,Op.intBits,Op.intCmp];done)
    |(rename_i hb;cases hr;clear heq hguard;simp only [Sem.run_bind,hg,Result.andThen_ok,binOp,Op.shift];rw [if_neg hb];rfl)
  ·cases op<;>simp only [gshift,gint] at hr<;>(try split at hr)<;>(try split at hr)<;>first
    |(cases hr;done)
    |(cases hr;exact .lit rfl)
 ·rename_i a b
  obtain rfl:=hx.str_inv;obtain rfl:=hy.str_inv
  have hg:=hguard (.string a) (.string b) (by simp) (by simp)
  refine ⟨r,?_,?_⟩
  ·cases op<;>simp only [gstr] at hr<;>(try split at hr)<;>first
    |(cases hr;done)
    |(cases hr;simp_all [binOp,Op.stringOp,IntKind.max,IntKind.signed,IntKind.bits];done)
    |(cases hr;simp_all [binOp,Op.stringOp,IntKind.max,IntKind.signed,IntKind.bits];omega)
  ·cases op<;>simp only [gstr] at hr<;>(try split at hr)<;>first
    |(cases hr;done)
    |(cases hr;exact .lit rfl)
 ·rename_i hni hns
  have hshape:∀ q z,geq q x y=some z→(∀ k a,x'≠.int k a)∧(∀ k a,x'≠.float k a)∧(∀ k a b,x'≠.complex k a b)∧(∀ s,x'≠.string s):=by
   intro q z hz
   refine ⟨?_,?_,?_,?_⟩<;>intros<;>rintro rfl
   ·cases hx
    cases q with
    |int=>obtain ⟨_,_,_,e1,e2,_⟩:=geqIn_int hz;exact hni _ _ _ _ rfl e2
    |_=>simp [geq,geqIn] at hz
   ·cases hx
    cases q<;>simp [geq,geqIn] at hz
   ·cases hx
    cases q<;>simp [geq,geqIn] at hz
   ·cases hx
    cases q with
    |str=>obtain ⟨_,_,e1,e2,_⟩:=geqIn_str hz;exact hns _ _ rfl e2
    |_=>simp [geq,geqIn] at hz
  split at hr
  ·rename_i q hop
   simp only [Option.map_eq_some_iff] at hr
   obtain ⟨z,hz,rfl⟩:=hr
   obtain ⟨h1,h2⟩:=heq q z (.inl rfl) hop hz
   obtain ⟨s1,s2,s3,s4⟩:=hshape q z hz
   refine ⟨.bool z,?_,.lit rfl⟩
   simp only [Sem.run_bind,h1,Result.andThen_ok]
   unfold binOp
   split<;>simp_all
  ·rename_i q hop
   simp only [Option.map_eq_some_iff] at hr
   obtain ⟨z,hz,rfl⟩:=hr
   obtain ⟨h1,h2⟩:=heq q z (.inr rfl) hop hz
   obtain ⟨s1,s2,s3,s4⟩:=hshape q z hz
   refine ⟨.bool !z,?_,.lit rfl⟩
   simp only [Sem.run_bind,h1,Result.andThen_ok]
   unfold binOp
   split<;>simp_all
  ·cases hr
end
end Go.Gh
namespace Go.Gh
set_option linter.unusedVariables false
set_option linter.unusedSimpArgs false
open Go.RowKit
section
variable {P:Program} {base lim:Nat} {ι:Inj} {H:GHeap} {w:World}
theorem HR.unit (h:HR P base lim ι H.t w) {i:Nat} {l:GLoc} {u:Nat} (hi:ι i=some l) (hu:H.unit i=some u):l.unit=usz u:=by
 unfold GHeap.unit GHeap.obj at hu
 cases ho:H.t.get i with
 |none=>rw [ho] at hu;cases hu
 |some o=>
  rw [ho] at hu
  cases hu
  have:=h.obj i l o hi ho
  cases o with
  |dead u=>exact this
  |cells cs u own=>exact this.1
  |iter s pos=>exact this.1.trans (by simp [GObj.unit,usz])
  |dict es=>exact this.1.trans (by simp [GObj.unit,usz])
theorem gun_ok {op:UnOp} {x x' r:Value} (hx:VR ι x x') (hr:gun op x=some r):(Op.unary op x').run P w=.ok r w∧VR ι r r:=by
 unfold gun at hr
 split at hr
 ·obtain rfl:=hx.int_inv;cases hr;exact ⟨by simp [Op.unary,Op.intArith],.lit rfl⟩
 ·obtain rfl:=hx.int_inv
  simp only [gint,Option.some.injEq] at hr
  subst hr
  exact ⟨by simp [Op.unary,Op.intBits],.lit rfl⟩
 ·obtain rfl:=hx.bool_inv;cases hr;exact ⟨by simp [Op.unary],.lit rfl⟩
 ·cases hr
def OptR (ι:Inj):Option Value→Option Value→Prop
 |none,none=>True
 |some v,some v'=>VR ι v v'
 |_,_=>False
theorem gbounds_ok {len cap:Nat} {lo hi lo' hi':Option Value} {l h:Nat} (hl:OptR ι lo lo') (hh:OptR ι hi hi') (hg:gbounds len cap lo hi=some (l,h)) (b:Bool) (cap':Nat) (hc:cap≤cap'):
 (Instr.sliceBounds b len cap' lo' hi' none).run P w=.ok (l,h,cap') w∧l≤h∧(h=len∨h≤cap):=by
 unfold gbounds at hg
 split at hg
 ·cases hg
 ·rename_i h0 hh0
  have step:∃ m:Sem Nat,m.run P w=.ok h0 w∧(h0=len∨h0≤cap)∧
   ∀ f:Nat→Sem (Nat × Nat × Nat),(Instr.sliceBounds b len cap' lo' hi' none).run P w=((do
    let l ← match lo' with
     |some v=>Instr.sliceBound v h0 .sliceB
     |none=>pure 0
    pure (l,h0,cap'):Sem (Nat × Nat × Nat))).run P w:=by
   split at hh0
   ·cases hh0
    cases hi' with
    |some _=>exact hh.elim
    |none=>
     refine ⟨pure len,rfl,.inl rfl,fun _=>?_⟩
     cases lo'<;>simp [Instr.sliceBounds]
   ·rename_i k hv
    split at hh0
    ·rename_i hb
     cases hh0
     cases hi' with
     |none=>exact hh.elim
     |some v'=>
      obtain rfl:=VR.int_inv (show VR ι (.int k hv) v' from hh)
      refine ⟨pure hv.toNat,rfl,.inr (by omega),fun _=>?_⟩
      have e:∀ code,(Instr.sliceBound (.int k hv) cap' code).run P w=.ok hv.toNat w:=fun code=>by simp [Instr.sliceBound,asIntOf];intro hh;omega
      cases lo'<;>simp [Instr.sliceBounds,e]
    ·cases hh0
   ·cases hh0
  obtain ⟨_,_,h2,h3⟩:=step
  have h3:=h3 (fun _=>pure (0,0,0))
  split at hg
  ·cases hg
   cases lo' with
   |some _=>exact hl.elim
   |none=>exact ⟨by rw [h3];simp,by omega,h2⟩
  ·rename_i k lv
   split at hg
   ·rename_i hb
    cases hg
    cases lo' with
    |none=>exact hl.elim
    |some v'=>
     obtain rfl:=VR.int_inv (show VR ι (.int k lv) v' from hl)
     have e:(Instr.sliceBound (.int k lv) h .sliceB).run P w=.ok lv.toNat w:=by simp [Instr.sliceBound,asIntOf];intro hh;omega
     exact ⟨by rw [h3];simp [e],by omega,h2⟩
   ·cases hg
  ·cases hg
theorem gbounds3_ok {len cap m:Nat} {lo hi lo' hi':Option Value} {l h:Nat} {k:IntKind} (hm:m≤cap) (hs:hi.isSome=true) (hl:OptR ι lo lo') (hh:OptR ι hi hi') (hg:gbounds len m lo hi=some (l,h)) (b:Bool):
 (Instr.sliceBounds b len cap lo' hi' (some (.int k (m:Int)))).run P w=.ok (l,h,m) w∧l≤h∧h≤m:=by
 have em:∀ code,(Instr.sliceBound (.int k (m:Int)) cap code).run P w=.ok m w:=fun code=>by simp [Instr.sliceBound,asIntOf];intro hh;omega
 unfold gbounds at hg
 cases hi with
 |none=>simp at hs
 |some hv=>
  cases hi' with
  |none=>exact hh.elim
  |some hv'=>
   cases hv with
   |int kh hn=>
    obtain rfl:=VR.int_inv (show VR ι (.int kh hn) hv' from hh)
    simp only at hg
    by_cases hb:0≤hn∧hn≤m
    ·rw [if_pos hb] at hg
     have eh:∀ code,(Instr.sliceBound (.int kh hn) m code).run P w=.ok hn.toNat w:=fun code=>by simp [Instr.sliceBound,asIntOf];intro hh;omega
     cases lo with
     |none=>
      cases lo' with
      |some _=>exact hl.elim
      |none=>cases hg;exact ⟨by simp [Instr.sliceBounds,em,eh],by omega,by omega⟩
     |some lv=>
      cases lo' with
      |none=>exact hl.elim
      |some lv'=>
       cases lv with
       |int kl ln=>
        obtain rfl:=VR.int_inv (show VR ι (.int kl ln) lv' from hl)
        simp only at hg
        by_cases hb':0≤ln∧ln≤hn.toNat
        ·rw [if_pos hb'] at hg
         cases hg
         have el:∀ code,(Instr.sliceBound (.int kl ln) hn.toNat code).run P w=.ok ln.toNat w:=fun code=>by simp [Instr.sliceBound,asIntOf];intro hh;omega
         exact ⟨by simp [Instr.sliceBounds,em,eh,el],by omega,by omega⟩
        ·rw [if_neg hb'] at hg;cases hg
       |_=>simp at hg
    ·rw [if_neg hb] at hg;cases hg
   |_=>simp at hg
theorem add_addr (b o n:Nat):(⟨b,o,none⟩:Addr).add n=⟨b,o+n,none⟩:=by unfold Addr.add;split<;>simp_all
theorem gslice_ok (hh:HR P base lim ι H.t w) {t:TypeId} {r:SlK} (hk:slcK P t=some r) {x x' v:Value} {lo hi mx lo' hi' mx':Option Value} (hx:VR ι x x') (hlo:OptR ι lo lo') (hhi:OptR ι hi hi') (hmx:OptR ι mx mx')
 (hr:gslice r H x lo hi mx=some v):∃ v',(Instr.sliceAt t x' lo' hi' mx').run P w=.ok v' w∧VR ι v v':=by
 have hcut:∀ {i o n gc c l h m size u:Nat} {L:GLoc} (_:ι i=some L) (_:H.unit i=some u) (_:u=0∨usz u=size) (_:L.unit=0∨L.off+o+c * L.unit≤L.size) (_:l≤h) (_:h≤m) (_:m≤c) (g:Nat) (_:g=0∨g=m - l+1),
  VR ι (.slice (some ⟨i,o+l * size,none⟩) (h - l) g) (.slice (if m=l then some ⟨L.block,L.off+o,none⟩ else (some (⟨L.block,L.off+o,none⟩:Addr)).map (·.add (l * size))) (h - l) (m - l)):=by
  intro i o n gc c l h m size u L hL hu hus hb h1 h2 h3 g hg
  have hun:=hh.unit hL hu
  by_cases e:m=l
  ·subst e
   have:h - m=0:=by omega
   rw [if_pos rfl,this,Nat.sub_self]
   exact .slV (by omega)
  ·rw [if_neg e]
   simp only [Option.map_some,add_addr,Nat.add_assoc]
   refine .sl hL (by omega) hg ?_
   rcases hus with rfl|hus
   ·left;rw [hun];rfl
   ·rcases hb with hb|hb
    ·exact .inl hb
    ·right
     rw [hun,hus] at hb ⊢
     have:l * size+(m - l) * size=m * size:=by rw [← Nat.add_mul];congr 1;omega
     have:m * size≤c * size:=Nat.mul_le_mul_right _ h3
     omega
 unfold gslice at hr
 split at hr
 ·rename_i s
  obtain rfl:=hx.str_inv
  unfold slcK at hk
  split at hk
  ·rename_i hs
   split at hr
   ·cases hr
   ·cases mx' with
    |some _=>exact hmx.elim
    |none=>
     simp only [Option.map_eq_some_iff] at hr
     obtain ⟨⟨l,h⟩,hg,rfl⟩:=hr
     obtain ⟨e1,_,_⟩:=gbounds_ok (P:=P) (w:=w) hlo hhi hg false s.size (Nat.le_refl _)
     exact ⟨_,by simp [Instr.sliceAt,Instr.slice,run_underlying hs,e1],.lit rfl⟩
  ·simp at hk
  ·simp at hk
  ·cases hk
 ·rename_i size
  obtain ⟨_,_,rfl⟩:=hx.slN_inv
  unfold slcK at hk
  split at hk
  ·cases hk
  ·rename_i e hs
   simp only [Option.map_eq_some_iff] at hk
   obtain ⟨sz,hsz,hz⟩:=hk
   split at hr
   ·cases hr
   ·cases mx' with
    |some _=>exact hmx.elim
    |none=>
     simp only [Option.map_eq_some_iff] at hr
     obtain ⟨⟨l,h⟩,hg,rfl⟩:=hr
     obtain ⟨e1,e2,e3⟩:=gbounds_ok (P:=P) (w:=w) hlo hhi hg true 0 (Nat.le_refl _)
     obtain rfl:h=0:=by omega
     obtain rfl:l=0:=by omega
     exact ⟨.slice none 0 0,by simp [Instr.sliceAt,Instr.slice,run_underlying hs,e1,szK_run hsz],.lit rfl⟩
  ·simp at hk
  ·cases hk
 ·rename_i size i o n gc
  unfold slcK at hk
  split at hk
  ·cases hk
  ·rename_i e hs
   simp only [Option.map_eq_some_iff,SlK.sl.injEq] at hk
   obtain ⟨sz,hsz,rfl⟩:=hk
   have hszr:=szK_run (w:=w) hsz
   split at hr
   ·rename_i u hu
    split at hr
    ·rename_i hus
     split at hr
     ·cases mx' with
      |some _=>exact hmx.elim
      |none=>
       simp only [Option.map_eq_some_iff] at hr
       obtain ⟨⟨l,h⟩,hg,rfl⟩:=hr
       cases hx with
       |lit h=>simp [litFlat] at h
       |slV hgc=>
        rename_i y
        have hc0:(if gc=0 then 0 else gc - 1)≤0:=by split<;>omega
        obtain ⟨e1,e2,e3⟩:=gbounds_ok (P:=P) (w:=w) hlo hhi hg true 0 hc0
        obtain rfl:h=0:=by omega
        obtain rfl:l=0:=by omega
        refine ⟨.slice (some y) 0 0,by simp [Instr.sliceAt,Instr.slice,run_underlying hs,e1,hszr],.slV (by split<;>omega)⟩
       |sl hL hn hgc hb=>
        rename_i c L
        have hc0:(if gc=0 then n else gc - 1)≤c:=by split<;>omega
        obtain ⟨e1,e2,e3⟩:=gbounds_ok (P:=P) (w:=w) hlo hhi hg true c hc0
        refine ⟨_,by simp only [Instr.sliceAt,Instr.slice,Sem.run_bind,run_underlying hs,Result.andThen_ok,e1,hszr];rfl,?_⟩
        exact hcut (n:=n) (gc:=gc) hL hu hus hb e2 (by omega) (Nat.le_refl _) _ (by split<;>omega)
     ·rename_i k m
      by_cases hm:0≤m∧m.toNat≤(if gc=0 then n else gc - 1)∧hi.isSome=true
      ·rw [if_pos hm] at hr
       simp only [Option.map_eq_some_iff] at hr
       obtain ⟨⟨l,h⟩,hg,rfl⟩:=hr
       cases mx' with
       |none=>exact hmx.elim
       |some m'=>
        obtain rfl:=VR.int_inv (show VR ι (.int k m) m' from hmx)
        obtain ⟨mm,rfl⟩:=Int.eq_ofNat_of_zero_le hm.1
        have hm2:=hm.2.1
        simp only [Int.toNat_natCast] at hm2 hg ⊢
        cases hx with
        |lit h=>simp [litFlat] at h
        |slV hgc=>
         rename_i y
         obtain rfl:mm=0:=by split at hm2<;>omega
         obtain ⟨e1,e2,e3⟩:=gbounds3_ok (P:=P) (w:=w) (k:=k) (cap:=0) (Nat.le_refl _) hm.2.2 hlo hhi hg true
         obtain rfl:h=0:=by omega
         obtain rfl:l=0:=by omega
         simp only [Int.natCast_zero] at e1
         exact ⟨.slice (some y) 0 0,by simp [Instr.sliceAt,Instr.slice,run_underlying hs,e1,hszr],.slV (by omega)⟩
        |sl hL hn hgc hb=>
         rename_i c L
         have hmc:mm≤c:=by split at hm2<;>omega
         obtain ⟨e1,e2,e3⟩:=gbounds3_ok (P:=P) (w:=w) (k:=k) hmc hm.2.2 hlo hhi hg true
         refine ⟨_,by simp only [Instr.sliceAt,Instr.slice,Sem.run_bind,run_underlying hs,Result.andThen_ok,e1,hszr];rfl,?_⟩
         exact hcut (n:=n) (gc:=gc) hL hu hus hb e2 e3 hmc _ (by omega)
      ·rw [if_neg hm] at hr;cases hr
     ·cases hr
    ·cases hr
   ·cases hr
  ·simp at hk
  ·cases hk
 ·rename_i n size i o
  unfold slcK at hk
  split at hk
  ·cases hk
  ·simp at hk
  ·rename_i n' e hs
   simp only [Option.map_eq_some_iff,SlK.arr.injEq] at hk
   obtain ⟨sz,hsz,rfl,rfl⟩:=hk
   have hszr:=szK_run (w:=w) hsz
   split at hr
   ·rename_i hu
    split at hr
    ·cases hr
    ·cases mx' with
     |some _=>exact hmx.elim
     |none=>
      simp only [Option.map_eq_some_iff] at hr
      obtain ⟨⟨l,h⟩,hg,rfl⟩:=hr
      obtain ⟨L,hL,rfl⟩:=hx.ptr_inv
      obtain ⟨e1,e2,e3⟩:=gbounds_ok (P:=P) (w:=w) hlo hhi hg false n' (Nat.le_refl _)
      refine ⟨_,by simp only [Instr.sliceAt,Instr.sureAddr,Sem.run_bind,run_underlying hs,Result.andThen_ok,Sem.run_pure,e1,hszr];rfl,?_⟩
      have:=hcut (o:=o) (n:=n') (gc:=0) (size:=sz) hL hu (.inl rfl) (.inl ((hh.unit hL hu).trans rfl)) e2 (show h≤n' by omega) (Nat.le_refl _) (n' - l+1) (.inr rfl)
      by_cases e:n'=l
      ·rw [if_pos e] at this ⊢;exact this
      ·rw [if_neg e] at this ⊢;exact this
   ·cases hr
  ·cases hk
 ·cases hr
end
end Go.Gh
namespace Go.Gh
set_option linter.unusedVariables false
set_option linter.unusedSimpArgs false
open Go.RowKit
section
variable {P:Program} {base lim:Nat} {ι:Inj} {H:GHeap} {w:World}
theorem gmin2_ok {x y x' y' r:Value} (hx:VR ι x x') (hy:VR ι y y') (hr:gmin2 x y=some r):(Builtin.min2 x' y').run P w=.ok r w∧VR ι r r:=by
 unfold gmin2 at hr
 split at hr
 ·obtain rfl:=hx.int_inv;obtain rfl:=hy.int_inv
  cases hr
  exact ⟨by simp [Builtin.min2],.lit rfl⟩
 ·cases hr
theorem gmax2_ok {x y x' y' r:Value} (hx:VR ι x x') (hy:VR ι y y') (hr:gmax2 x y=some r):(Builtin.max2 x' y').run P w=.ok r w∧VR ι r r:=by
 unfold gmax2 at hr
 split at hr
 ·obtain rfl:=hx.int_inv;obtain rfl:=hy.int_inv
  cases hr
  exact ⟨by simp [Builtin.max2],.lit rfl⟩
 ·cases hr
theorem gfold_ok {g:Value→Value→Option Value} {f:Value→Value→Sem Value} (hf:∀ x y x' y' r,VR ι x x'→VR ι y y'→g x y=some r→(f x' y').run P w=.ok r w∧VR ι r r):
 ∀ (l l':List Value) (x x' r:Value),VRs ι l l'→VR ι x x'→gfold g l x=some r→∃ r',(l'.foldlM f x').run P w=.ok r' w∧VR ι r r'
 |[],l',x,x',r,hl,hx,hr=>by
  obtain rfl:=hl.nil_inv
  cases hr
  exact ⟨x',by simp [List.foldlM],hx⟩
 |y :: l,l',x,x',r,hl,hx,hr=>by
  obtain ⟨y',l2,rfl,hy,hl2⟩:=hl.cons_inv
  simp only [gfold,Option.bind_eq_some_iff] at hr
  obtain ⟨z,hz,hr⟩:=hr
  obtain ⟨h1,h2⟩:=hf x y x' y' z hx hy hz
  obtain ⟨r',h3,h4⟩:=gfold_ok hf l l2 z z r hl2 h2 hr
  exact ⟨r',by simp [List.foldlM,h1,h3],h4⟩
theorem gcells_ok (h:HR P base lim ι H.t w) {size m:Nat} {x x':Value} {cs:List Value} (hx:VR ι x x') (hr:gcells size m H x=some cs) (hm:∀ a n c,x=.slice a n c→m≤n) (hs:∀ s,x=.string s→m≤s.size):
 ∃ ds,(Builtin.firstCells size m x').run P w=.ok ds.toArray w∧VRs ι cs ds∧(∀ v ∈ cs,flatV v=true)∧((∃ a n c,x=.slice (some a) n c)→cs.length=m * size):=by
 unfold gcells at hr
 split at hr
 ·obtain ⟨_,_,rfl⟩:=hx.slN_inv
  cases hr
  exact ⟨[],by simp [Builtin.firstCells],.nil,by simp,by rintro ⟨_,_,_,h⟩;cases h⟩
 ·rename_i i o n gc
  have hmn:=hm _ _ _ rfl
  by_cases h0:m * size=0
  ·rw [if_pos h0] at hr
   cases hr
   obtain ⟨b,c',rfl⟩:=hx.slS_inv
   exact ⟨[],by simp [Builtin.firstCells,h0,loadCells,loadCellsFrom],.nil,by simp,fun _=>by simp [h0]⟩
  ·rw [if_neg h0] at hr
   split at hr
   ·cases hr
   ·rename_i cs0 hcs
    split at hr
    ·rename_i hn
     cases hr
     cases hx with
     |lit h=>simp [litFlat] at h
     |slV=>exfalso;apply h0;obtain rfl:m=0:=by omega
           simp
     |sl hl=>
      rename_i c l _ _ _
      obtain ⟨ds,h1,h2,h3,h4⟩:=h.row hl hcs o (m * size) hn
      refine ⟨ds,?_,h2,?_,fun _=>by simp;omega⟩
      ·simp only [Builtin.firstCells]
       exact run_loadCells_row h1 h3
      ·intro v hv
       have hv2:=List.mem_of_mem_drop (List.mem_of_mem_take hv)
       obtain ⟨j,hj⟩:=List.getElem?_of_mem hv2
       exact (h.cell hl hcs hj).1
    ·cases hr
 ·rename_i s
  obtain rfl:=hx.str_inv
  cases hr
  have hs2:=hs s rfl
  refine ⟨(s.data.toList.take m).map fun b=>Value.int .u8 b.toNat,?_,VRs.lits ?_,?_,fun hh=>?_⟩
  ·simp only [Builtin.firstCells,Sem.run_pure]
   congr 1
   apply Array.ext'
   simp [Array.toList_extract,List.extract,List.map_take]
  ·intro v hv;obtain ⟨b,_,rfl⟩:=List.mem_map.1 hv;rfl
  ·intro v hv;obtain ⟨b,_,rfl⟩:=List.mem_map.1 hv;rfl
  ·obtain ⟨_,_,_,hh⟩:=hh;cases hh
 ·cases hr
theorem gbytes_ok:∀ (l:List Value) (b:List UInt8),gbytes l=some b→∀ (ds:List Value),VRs ι l ds→∃ ns:List Int,ds=ns.map (Value.int .u8)∧b=ns.map fun n=>UInt8.ofNat n.toNat
 |[],b,h,ds,hd=>by
  cases h
  obtain rfl:=hd.nil_inv
  exact ⟨[],rfl,rfl⟩
 |v :: l,b,h,ds,hd=>by
  obtain ⟨v',ds',rfl,hv,hd'⟩:=hd.cons_inv
  cases v with
  |int k n=>
   cases k<;>simp [gbytes] at h
   obtain ⟨b',hb,rfl⟩:=h
   obtain rfl:=hv.int_inv
   obtain ⟨ns,rfl,rfl⟩:=gbytes_ok l b' hb ds' hd'
   exact ⟨n :: ns,rfl,rfl⟩
  |_=>simp [gbytes] at h
theorem grunes_ok:∀ (l:List Value) (b:List Int),grunes l=some b→∀ (ds:List Value),VRs ι l ds→ds=b.map (Value.int .i32)
 |[],b,h,ds,hd=>by
  cases h
  obtain rfl:=hd.nil_inv
  rfl
 |v :: l,b,h,ds,hd=>by
  obtain ⟨v',ds',rfl,hv,hd'⟩:=hd.cons_inv
  cases v with
  |int k n=>
   cases k<;>simp [grunes] at h
   obtain ⟨b',hb,rfl⟩:=h
   obtain rfl:=hv.int_inv
   have:=grunes_ok l b' hb ds' hd'
   rw [this]
   rfl
  |_=>simp [grunes] at h
theorem bytesToString_run (a:Addr) (n c:Nat) (ns:List Int) (h:(loadCells a n).run P w=.ok (ns.map (Value.int .u8)).toArray w):
 (Conv.bytesToString (.slice (some a) n c)).run P w=.ok (.string ⟨(ns.map fun n=>UInt8.ofNat n.toNat).toArray⟩) w:=by
 rw [run_bytesToString w a n c ns h]
 congr 2
 have:∀ (ns:List Int) (r:ByteArray),ns.foldl (fun r n=>r.push (UInt8.ofNat n.toNat)) r=⟨r.data ++ (ns.map fun n=>UInt8.ofNat n.toNat).toArray⟩:=by
  intro ns
  induction ns with
  |nil=>intro r;simp
  |cons n ns ih=>intro r;rw [List.foldl_cons,ih];simp [ByteArray.push]
 simpa using this ns .empty
theorem gconv_ok (h:HR P base lim ι H.t w) {s d:TypeId} {r:CvK} (hk:cvK P s d=some r) (hr1:∀ u,r≠.bytes u) (hr2:∀ u,r≠.runes u) {x x' v:Value} {new:Option GObj} (hx:VR ι x x') (hr:gconv r H x=some (v,new)):
 new=none∧(convert s d x').run P w=.ok v w∧VR ι v v:=by
 unfold cvK at hk
 unfold gconv at hr
 split at hr
 ·obtain rfl:=hx.int_inv
  cases hr
  split at hk<;>first|(cases hk;done)|skip
  ·rename_i h1 h2;cases hk;exact ⟨rfl,by simp [convert,run_underlying h1,run_underlying h2,Conv.intToInt],.lit rfl⟩
  all_goals (split at hk<;>(try split at hk)<;>cases hk)
 ·obtain rfl:=hx.int_inv
  cases hr
  split at hk<;>first|(cases hk;done)|skip
  ·rename_i h1 h2;exact ⟨rfl,by simp [convert,run_underlying h1,run_underlying h2,Conv.intToString],.lit rfl⟩
  all_goals (split at hk<;>(try split at hk)<;>cases hk)
 ·obtain rfl:=hx.str_inv
  cases hr
  split at hk<;>first|(cases hk;done)|skip
  ·rename_i h1 h2;exact ⟨rfl,by simp [convert,run_underlying h1,run_underlying h2],.lit rfl⟩
  all_goals (split at hk<;>(try split at hk)<;>cases hk)
 ·exact absurd rfl (hr1 _)
 ·exact absurd rfl (hr2 _)
 ·rename_i a n c
  split at hk<;>first|(cases hk;done)|skip
  ·split at hk<;>(try split at hk)<;>cases hk
  ·rename_i e h1 h2
   split at hk<;>first|(cases hk;done)|skip
   rename_i h3
   simp only [Option.bind_eq_some_iff,Option.map_eq_some_iff,Prod.mk.injEq] at hr
   obtain ⟨l,hl,b,hb,rfl,rfl⟩:=hr
   refine ⟨rfl,?_,.lit rfl⟩
   cases a with
   |none=>
    obtain ⟨rfl,rfl,rfl⟩:=hx.slN_inv
    simp [gcells] at hl
    subst hl
    cases hb
    simp [convert,run_underlying h1,run_underlying h2,run_underlying h3,Conv.bytesToString]
    rfl
   |some a=>
    obtain ⟨b',c',rfl⟩:=hx.slS_inv
    obtain ⟨ds,e1,e2,_,e3⟩:=gcells_ok h hx hl (by intro a' n' c' e;cases e;exact Nat.le_refl _) (by intro s e;cases e)
    obtain ⟨ns,rfl,rfl⟩:=gbytes_ok l b hb ds e2
    have e4:(loadCells b' n).run P w=.ok (ns.map (Value.int .u8)).toArray w:=by
     simpa [Builtin.firstCells] using e1
    simp [convert,run_underlying h1,run_underlying h2,run_underlying h3,bytesToString_run b' n c' ns e4]
 ·rename_i a n c
  split at hk<;>first|(cases hk;done)|skip
  ·split at hk<;>(try split at hk)<;>cases hk
  ·rename_i e h1 h2
   split at hk<;>first|(cases hk;done)|skip
   rename_i h3
   simp only [Option.bind_eq_some_iff,Option.map_eq_some_iff,Prod.mk.injEq] at hr
   obtain ⟨l,hl,b,hb,rfl,rfl⟩:=hr
   refine ⟨rfl,?_,.lit rfl⟩
   cases a with
   |none=>
    obtain ⟨rfl,rfl,rfl⟩:=hx.slN_inv
    simp [gcells] at hl
    subst hl
    cases hb
    simp [convert,run_underlying h1,run_underlying h2,run_underlying h3,Conv.runesToString]
   |some a=>
    obtain ⟨b',c',rfl⟩:=hx.slS_inv
    obtain ⟨ds,e1,e2,_,e3⟩:=gcells_ok h hx hl (by intro a' n' c' e;cases e;exact Nat.le_refl _) (by intro s e;cases e)
    obtain rfl:=grunes_ok l b hb ds e2
    have e4:(loadCells b' n).run P w=.ok (b.map (Value.int .i32)).toArray w:=by
     simpa [Builtin.firstCells] using e1
    rw [run_convert_runes_string w s d e _ _ _ h1 h3 h2,run_runesToString w b' n c' b e4]
    rfl
 ·cases hr
end
end Go.Gh
namespace Go.Gh
set_option linter.unusedVariables false
set_option linter.unusedSimpArgs false
open Go.RowKit
section
variable {P:Program} {base lim:Nat} {ι:Inj} {H:GHeap} {w:World} {fr:Fr} {act:Act}
theorem cArgs_ok {t:Tr GObj} (hfr:FR ι fr act) (h:HR P base lim ι t w):∀ (xs:List Operand) (asl:List GArg) (vs:List Value),cArgs P xs=some asl→evs fr asl=some vs→VRs ι vs (xs.map act.eval)
 |[],asl,vs,hc,hv=>by cases hc;cases hv;exact .nil
 |x :: xs,asl,vs,hc,hv=>by
  simp only [cArgs] at hc
  split at hc
  ·rename_i a l ha hl
   cases hc
   simp only [evs] at hv
   split at hv
   ·rename_i v r hv1 hr
    cases hv
    exact .cons (cArg_ok ha hv1 hfr h) (cArgs_ok hfr h xs l r hl hr)
   ·cases hv
  ·cases hc
theorem cOpt_ok {t:Tr GObj} (hfr:FR ι fr act) (h:HR P base lim ι t w) {x:Option Operand} {a:Option GArg} {v:Option Value} (hc:cOpt P x=some a) (hv:evOpt fr a=some v):OptR ι v (x.map act.eval):=by
 cases x with
 |none=>cases hc;cases hv;trivial
 |some x=>
  simp only [cOpt,Option.map_eq_some_iff] at hc
  obtain ⟨a',ha,rfl⟩:=hc
  simp only [evOpt,Option.map_eq_some_iff] at hv
  obtain ⟨v',hv,rfl⟩:=hv
  exact cArg_ok ha hv hfr h
theorem fold_set:∀ (vs:List Value) (j off:Nat) (cs:Array Value),off+j+vs.length≤cs.size→
 ((vs.zipIdx j).foldl (fun cs (x:Value × Nat)=>cs.setIfInBounds (off+x.2) x.1) cs).toList=cs.toList.take (off+j) ++ vs ++ cs.toList.drop (off+j+vs.length)
 |[],j,off,cs,h=>by simp
 |v :: r,j,off,cs,h=>by
  rw [List.zipIdx_cons,List.foldl_cons,fold_set r (j+1) off _ (by simp at h ⊢;omega)]
  simp only [Array.toList_setIfInBounds,List.length_cons]
  have h1:off+j < cs.toList.length:=by simp at h ⊢;omega
  rw [show off+(j+1)=off+j+1 by omega,List.take_add_one,List.take_set_of_le (Nat.le_refl _),List.getElem?_set_self h1,List.drop_set_of_lt (by omega)]
  simp [List.append_assoc]
  congr 1
  omega
theorem fill_ok {pl:Nat→Option (Nat × Nat)}:∀ (ps:List (Nat × Value)) (qs:List (Nat × Nat × Value)) (cells:List Value) (ds:Array Value) (cs:List Value),qs.length=ps.length→
 (∀ (j:Nat) o n v,qs[j]? =some (o,n,v)→∃ i v',ps[j]? =some (i,v')∧pl i=some (o,n)∧VR ι v v')→VRs ι cells ds.toList→fillL cells qs=some cs→
 ∃ ds',Instr.fill pl ds ps=some ds'∧VRs ι cs ds'.toList
 |[],qs,cells,ds,cs,hl,hq,hd,hf=>by
  obtain rfl:qs=[]:=List.eq_nil_of_length_eq_zero hl
  cases hf
  exact ⟨ds,rfl,hd⟩
 |(i,v') :: ps,[],cells,ds,cs,hl,hq,hd,hf=>by simp at hl
 |(i,v') :: ps,(o,n,v) :: qs,cells,ds,cs,hl,hq,hd,hf=>by
  obtain ⟨i',v2,h1,h2,h3⟩:=hq 0 o n v (by simp)
  simp at h1
  obtain ⟨rfl,rfl⟩:=h1
  simp only [fillL] at hf
  split at hf
  ·cases hf
  ·rename_i hc
   simp only [ne_eq,decide_not,gt_iff_lt,Bool.or_eq_true,Bool.not_eq_eq_eq_not,Bool.not_true,decide_eq_false_iff_not,decide_eq_true_eq,List.all_eq_false,not_or,Decidable.not_not,not_exists,not_and,Nat.not_lt] at hc
   obtain ⟨⟨hc1,hc2⟩,hc3⟩:=hc
   have hcells:=h3.cells (fun u hu=>by simpa using hc3 u hu)
   have hsz:v'.cells.size=n:=by have:=hcells.1;simp at this hc1 ⊢;omega
   have hds:ds.size=cells.length:=by have:=hd.1;simp at this;omega
   have hstep:(v'.cells.zipIdx.foldl (fun cs (x:Value × Nat)=>cs.setIfInBounds (o+x.2) x.1) ds).toList=ds.toList.take o ++ v'.cells.toList ++ ds.toList.drop (o+n):=by
    rw [← Array.foldl_toList,Array.toList_zipIdx]
    have:=fold_set v'.cells.toList 0 o ds (by simp;omega)
    simpa [hsz] using this
   have hrel:VRs ι (cells.take o ++ v.cells.toList ++ cells.drop (o+n)) (v'.cells.zipIdx.foldl (fun cs (x:Value × Nat)=>cs.setIfInBounds (o+x.2) x.1) ds).toList:=by
    rw [hstep]
    exact ((hd.take o).append hcells).append (hd.drop (o+n))
   obtain ⟨ds',h4,h5⟩:=fill_ok ps qs _ _ cs (by simpa using hl) (fun j o' n' u hu=>by simpa using hq (j+1) o' n' u (by simpa using hu)) hrel hf
   refine ⟨ds',?_,h5⟩
   simp only [Instr.fill,h2]
   rw [if_neg (by simp [hsz];omega)]
   exact h4
theorem cParts_ok {t:Tr GObj} {pl:Nat→Option (Nat × Nat)} (hfr:FR ι fr act) (h:HR P base lim ι t w):∀ (ps:List (Nat × Operand)) (asl:List (Nat × Nat × GArg)) (vs:List (Nat × Nat × Value)),cParts P pl ps=some asl→evParts fr asl=some vs→
 vs.length=(ps.map fun (i,x)=>(i,act.eval x)).length∧∀ (j:Nat) o n v,vs[j]? =some (o,n,v)→∃ i v',(ps.map fun (i,x)=>(i,act.eval x))[j]? =some (i,v')∧pl i=some (o,n)∧VR ι v v'
 |[],asl,vs,hc,hv=>by cases hc;cases hv;simp
 |(i,x) :: ps,asl,vs,hc,hv=>by
  simp only [cParts] at hc
  split at hc
  ·rename_i o n a l hp ha hl
   cases hc
   simp only [evParts] at hv
   split at hv
   ·rename_i v r hv1 hr
    cases hv
    obtain ⟨h1,h2⟩:=cParts_ok hfr h ps l r hl hr
    refine ⟨by simp at h1 ⊢;omega,fun j o' n' u hu=>?_⟩
    cases j with
    |zero=>simp at hu;obtain ⟨rfl,rfl,rfl⟩:=hu;exact ⟨i,_,by simp,hp,cArg_ok ha hv1 hfr h⟩
    |succ j=>simpa using h2 j o' n' u (by simpa using hu)
   ·cases hv
  ·cases hc
theorem zeroK_some {t:TypeId} {z:Value} (h:zeroK P t=some z):∃ i,P.info? t=some i∧i.zero=some z∧(∀ v ∈ z.cells.toList,litFlat v=true)∧litOk z=true:=by
 unfold zeroK at h
 simp only [Option.bind_eq_some_iff] at h
 obtain ⟨i,hi,z',hz,h⟩:=h
 split at h
 ·rename_i hc
  cases h
  simp only [Bool.and_eq_true,Array.all_eq_true] at hc
  exact ⟨i,hi,hz,fun v hv=>by obtain ⟨j,hj,rfl⟩:=List.getElem_of_mem hv;simpa using hc.1 j (by simpa using hj),hc.2⟩
 ·cases h
theorem placesK_some:∀ (fs:List Field) (ps:List (Nat × Nat)),placesK P fs=some ps→fs.mapM (fun f=>(P.info? f.type).map fun i=>(f.offset,i.size))=some ps
 |[],ps,h=>by cases h;rfl
 |f :: fs,ps,h=>by
  simp only [placesK] at h
  split at h
  ·rename_i n r hn hr
   cases h
   unfold szK at hn
   simp only [Option.map_eq_some_iff] at hn
   obtain ⟨i,hi,rfl⟩:=hn
   simp [List.mapM_cons,hi,placesK_some fs r hr]
  ·cases h
theorem build_ok {tt:Tr GObj} (hfr:FR ι fr act) (h:HR P base lim ι tt w) {t:TypeId} {ps:Array (Nat × Operand)} {z:Value} {asl:List (Nat × Nat × GArg)} {vs:List (Nat × Nat × Value)} {cs:List Value}
 (hz:zeroK P t=some z) (hpo:placeOk P t=true) (hp:cParts P (placeK P t) ps.toList=some asl) (hv:evParts fr asl=some vs) (hf:fillL z.cells.toList vs=some cs):
 ∃ r',(Instr.build t (ps.map fun (i,x)=>(i,act.eval x))).run P w=.ok r' w∧VR ι (.agg cs.toArray) r':=by
 obtain ⟨i,hi,hiz,hl,_⟩:=zeroK_some hz
 obtain ⟨h1,h2⟩:=cParts_ok hfr h ps.toList asl vs hp hv
 have hz0:VRs ι z.cells.toList z.cells.toList:=VRs.lits hl
 obtain ⟨ds',e1,e2⟩:=fill_ok _ vs _ z.cells cs h1 h2 hz0 hf
 have hb:∀ (pl:Nat→Option (Nat × Nat)),(∀ i,placeK P t i=pl i)→Instr.fill pl z.cells (ps.toList.map fun (i,x)=>(i,act.eval x))=some ds':=fun pl e=>by
  rw [← show placeK P t=pl from funext e];exact e1
 unfold placeOk at hpo
 refine ⟨.agg ds',run_build w t _ ds' ?_,?_⟩
 ·unfold Program.built
  split at hpo
  ·rename_i fs hu
   obtain ⟨pl,hpl⟩:=Option.isSome_iff_exists.1 hpo
   simp only [hi,hu,hiz,placesK_some _ _ hpl]
   rw [Array.toList_map]
   refine hb _ fun i=>?_
   simp [placeK,hu,hpl]
  ·rename_i n e hu
   unfold szK at hpo
   cases hie:P.info? e with
   |none=>rw [hie] at hpo;cases hpo
   |some ie=>
    simp only [hi,hu,hiz,hie]
    rw [Array.toList_map]
    refine hb _ fun i=>?_
    simp [placeK,hu,szK,hie]
  ·cases hpo
 ·have:=VR.agg_of e2
  simpa using this
theorem alloc_ok (h:HR P base lim ι H.t w) (hn:ι H.len=none) {cs:List Value} {u:Nat} {C:Array Value} {t:TypeId} {fr:Nat × Nat} {w1:World} (hw:Le w w1) (hs:w1.heap.size=w.heap.size)
 (hf:∀ v ∈ cs,flatV v=true) {ds:List Value} (hd:VRs ι cs ds) (hC:∀ (j:Nat) v,ds[j]? =some v→C[j]? =some v) (hCl:ds.length≤C.size) (hfr:fr.1=fr.2∨C.size≤fr.1) (hu:TyOk P u t 0 C.size):
 Le w (w1.alloc (.cells C t fr))∧HR P base lim (ι.upd H.len ⟨w.heap.size,0,usz u,C.size⟩) (H.add (some (.cells cs u true))).t (w1.alloc (.cells C t fr)):=by
 have hle:Le w (w1.alloc (.cells C t fr)):=hw.trans (Le.alloc w1 _)
 refine ⟨hle,h.fresh hn hle (Nat.le_refl _) (by simp;omega) ?_⟩
 have hb:(w1.alloc (.cells C t fr)).heap[w.heap.size]? =some (.cells C t fr):=by
  rw [← hs];show (w1.heap.push _)[w1.heap.size]? =_;simp
 refine ⟨rfl,fun j v hv=>⟨hf v (List.mem_of_getElem? hv),?_⟩,fun _ _=>⟨h.low,?_,C,t,fr,hb,rfl,hfr,hu⟩⟩
 ·obtain ⟨v',h1,h2⟩:=hd.2 j v hv
  refine ⟨v',?_,h2.mono (Inj.le_upd _ hn)⟩
  simp only [World.cell?,hb,Nat.zero_add]
  simpa using hC j v' h1
 ·have:=hd.1;simp;omega
theorem upd_ptr {n:Nat} {L:GLoc}:VR (ι.upd n L) (.pointer (some ⟨n,0,none⟩)) (.pointer (some ⟨L.block,L.off,none⟩)):=by
 have:=VR.ptr (o:=0) (Inj.upd_same ι n L)
 simpa using this
end
end Go.Gh
namespace Go.Gh
set_option linter.unusedVariables false
set_option linter.unusedSimpArgs false
open Go.RowKit
def MOk (P:Program) (base lim:Nat) (ι:Inj) (H:GHeap) (w:World) (v:Value) (new:Option GObj) (s:Sem Next):Prop:=
 ∃ v' ι' w',s.run P w=.ok (.value v') w'∧Le w w'∧VR ι' v v'∧HR P base lim ι' (H.add new).t w'∧(new=none→ι'=ι)∧∀ o,new=some o→∃ L,ι'=ι.upd H.len L∧w.heap.size≤L.block
section
variable {P:Program} {base lim:Nat} {ι:Inj} {H:GHeap} {w:World} {fr:Fr} {act:Act}
theorem MOk.same (h:HR P base lim ι H.t w) {v v':Value} {s:Sem Next} (hr:s.run P w=.ok (.value v') w) (hv:VR ι v v'):MOk P base lim ι H w v none s:=
 ⟨v',ι,w,hr,Le.refl w,hv,h,fun _=>rfl,by simp⟩
theorem MOk.row (h:HR P base lim ι H.t w) (hn:ι H.len=none) {cs:List Value} {u:Nat} {C:Array Value} {t:TypeId} {f:Nat × Nat} {w1:World} (hw:Le w w1) (hs:w1.heap.size=w.heap.size)
 (hf:∀ v ∈ cs,flatV v=true) {ds:List Value} (hd:VRs ι cs ds) (hC:∀ (j:Nat) v,ds[j]? =some v→C[j]? =some v) (hCl:ds.length≤C.size) (hfr:f.1=f.2∨C.size≤f.1) (hu:TyOk P u t 0 C.size)
 {v v':Value} {s:Sem Next} (hr:s.run P w=.ok (.value v') (w1.alloc (.cells C t f))) (hv:VR (ι.upd H.len ⟨w.heap.size,0,usz u,C.size⟩) v v'):MOk P base lim ι H w v (some (.cells cs u true)) s:=by
 obtain ⟨h1,h2⟩:=alloc_ok h hn hw hs hf hd hC hCl hfr hu
 exact ⟨v',_,_,hr,h1,hv,h2,by simp,fun o _=>⟨_,rfl,Nat.le_refl _⟩⟩
theorem newVar_run (e:TypeId) (v:Value):(newVar e v).run P w=.ok ⟨w.heap.size,0,none⟩ (w.alloc (.cells v.cells e)):=by
 simp [newVar,newRow]
theorem uK_257 {e:TypeId} (h:uK P e=257):e=P.rt.byte:=by
 unfold uK at h
 split at h
 ·assumption
 ·exfalso
  cases hs:szK P e with
  |none=>rw [hs] at h;simp at h
  |some n=>rw [hs] at h;simp at h;split at h<;>omega
theorem uK_258 {e:TypeId}:uK P e≠258:=by
 intro h
 unfold uK at h
 split at h
 ·omega
 ·cases hs:szK P e with
  |none=>rw [hs] at h;simp at h
  |some n=>rw [hs] at h;simp at h;split at h<;>omega
theorem uK_ty {e:TypeId} {off size:Nat}:TyOk P (uK P e) e off size:=⟨uK_257,fun h=>absurd h uK_258⟩
theorem uK_tyE {e:TypeId} {u off size:Nat} (h:u=uK P e):TyOk P u e off size:=h ▸ uK_ty
theorem uK_size {e:TypeId} {n:Nat} (h:szK P e=some n) (hb:szK P P.rt.byte=some 1):uK P e=0∨usz (uK P e)=n:=by
 unfold uK
 split
 ·rename_i he;subst he;rw [hb] at h;cases h;exact .inr rfl
 ·rw [h]
  simp only [Option.map_some,Option.getD_some]
  split
  ·exact .inl rfl
  ·rename_i hn;exact .inr (by unfold usz;rw [if_neg (by omega),if_neg (by omega)])
theorem mkK_some {t:TypeId} {z:List Value} {b u:Nat} (h:mkK P t=some (z,b,u)):∃ e i zv,P.underlying t=some (.slice e)∧P.info? e=some i∧i.zero=some zv∧i.bytes=b∧i.size=z.length∧zv.cells.toList=z∧z.length≠0∧(∀ v ∈ z,litFlat v=true)∧u=uK P e:=by
 unfold mkK at h
 split at h
 ·rename_i e hu
  split at h
  ·rename_i zv b' s hz hb hs
   split at h
   ·rename_i hc
    cases h
    obtain ⟨i,hi,hiz,hl,_⟩:=zeroK_some hz
    unfold byK at hb
    unfold szK at hs
    rw [hi] at hb hs
    cases hb
    cases hs
    exact ⟨e,i,zv,hu,hi,hiz,rfl,by simp [hc.1],rfl,by simp [hc.1];exact hc.2,hl,rfl⟩
   ·cases h
  ·cases h
 ·cases h
theorem zeros_len (z:List Value):∀ n,(zeros z n).length=n * z.length
 |0=>by simp [zeros]
 |n+1=>by rw [zeros,List.length_append,zeros_len z n,Nat.add_mul];omega
theorem zeros_mem {z:List Value} {v:Value}:∀ {n},v ∈ zeros z n→v ∈ z
 |0,h=>by simp [zeros] at h
 |n+1,h=>by rw [zeros,List.mem_append] at h;exact h.elim id zeros_mem
theorem zeros_get {z:List Value}:∀ (n j:Nat),j < n * z.length→(zeros z n)[j]? =z[j % z.length]?
 |0,j,h=>by simp at h
 |n+1,j,h=>by
  have hz:0 < z.length:=by rcases Nat.eq_zero_or_pos z.length with e|e;· rw [e] at h;simp at h
                           ·exact e
  rw [zeros,List.getElem?_append]
  split
  ·rename_i hj;rw [Nat.mod_eq_of_lt hj]
  ·rename_i hj
   rw [zeros_get n (j - z.length) (by rw [Nat.add_mul] at h;omega),← Nat.mod_eq_sub_mod (by omega)]
theorem madeZeros (zv:Value) (z:List Value) (hz:zv.cells.toList=z) (n:Nat) (h0:z.length≠0):((Array.range (n * z.length)).map (zv.cells[· % zv.cells.size]!)).toList=zeros z n:=by
 have hs:zv.cells.size=z.length:=by rw [← hz];simp
 apply List.ext_getElem?
 intro j
 by_cases hj:j < n * z.length
 ·rw [zeros_get n j hj,Array.getElem?_toList,Array.getElem?_map,Array.getElem?_eq_getElem (by rw [Array.size_range];exact hj),Array.getElem_range,Option.map_some]
  have hm:j % zv.cells.size < zv.cells.size:=Nat.mod_lt _ (by omega)
  rw [getElem!_pos zv.cells _ hm,← hs,← hz,Array.getElem?_toList,Array.getElem?_eq_getElem hm]
 ·rw [List.getElem?_eq_none (by simp;omega),List.getElem?_eq_none (by rw [zeros_len];omega)]
theorem gmake_ok (h:HR P base lim ι H.t w) (hb:szK P P.rt.byte=some 1) {t:TypeId} {z:List Value} {b u:Nat} (hk:mkK P t=some (z,b,u)) {l c l' c' v:Value} {new:Option GObj} (hl:VR ι l l') (hc:VR ι c c') (hr:gmake z b u H l c=some (v,new)) (hn:ι H.len=none):
 MOk P base lim ι H w v new (do pure (.value (← Instr.makeSlice t l' c'))):=by
 obtain ⟨e,i,zv,hu,hi,hz,rfl,hsz,hzl,h0,hlit,rfl⟩:=mkK_some hk
 unfold gmake at hr
 split at hr
 ·rename_i kl l kc c
  obtain rfl:=hl.int_inv;obtain rfl:=hc.int_inv
  split at hr
  ·rename_i hcond
   obtain ⟨c1,c2,c3,c4⟩:=hcond
   cases hr
   obtain ⟨cn,rfl⟩:=Int.eq_ofNat_of_zero_le (show 0≤c by omega)
   obtain ⟨ln,rfl⟩:=Int.eq_ofNat_of_zero_le c1
   have hwc:IntKind.i64.wrap (cn:Int)=cn:=IntWalk.i64_in _ (by omega)
   have hwl:IntKind.i64.wrap (ln:Int)=ln:=IntWalk.i64_in _ (by omega)
   have hmz:=madeZeros zv z hzl cn h0
   have hrun:(Instr.makeSlice t (.int kl (ln:Int)) (.int kc (cn:Int))).run P w=.ok (.slice (some ⟨w.heap.size,0,none⟩) ln cn) (w.alloc (.cells ((Array.range (cn * z.length)).map (zv.cells[· % zv.cells.size]!)) e)):=by
    have t1:¬ ((cn:Int) < 0):=by omega
    have t2:¬ (281474976710656 < (i.bytes:Int) * (cn:Int)):=by rw [Int.mul_comm];omega
    have t3:¬ ((ln:Int) < 0):=by omega
    have t4:¬ ((cn:Int) < (ln:Int)):=by omega
    by_cases hz0:cn=0
    ·subst hz0
     obtain rfl:ln=0:=by omega
     have hw0:IntKind.i64.wrap 0=0:=by decide
     simp [hw0,Instr.makeSlice,run_underlying hu,asInt,asIntOf,typeInfo,hi,hwl,hwc,sizeOf,hsz,newRow]
     congr 2;simp
    ·have:¬ (cn=0∨z.length=0):=by omega
     have hne:¬ z=[]:=by intro e;subst e;simp at h0
     simp [Instr.makeSlice,run_underlying hu,asInt,asIntOf,typeInfo,hi,hwl,hwc,sizeOf,hsz,newRow,zeroValue,hz,hz0,hne,t2]
     have t5:¬ cn * z.length=0:=by rw [Nat.mul_eq_zero];omega
     rw [if_neg (by omega),if_neg t5]
   have hlen:(zeros z cn).length=cn * z.length:=zeros_len z cn
   refine MOk.row h hn (Le.refl w) rfl (C:=(Array.range (cn * z.length)).map (zv.cells[· % zv.cells.size]!)) (t:=e) (f:=(0,0)) (fun v hv=>flatV_lit (hlit v (zeros_mem hv))) (VRs.lits fun v hv=>hlit v (zeros_mem hv)) ?_ (by simp [hlen]) (.inl rfl) uK_ty (by simp [hrun];rfl) ?_
   ·intro j v hv
    simp only [Int.toNat_natCast] at hv
    rw [← hmz,Array.getElem?_toList] at hv
    exact hv
   ·have hsize:((Array.range (cn * z.length)).map (zv.cells[· % zv.cells.size]!)).size=cn * z.length:=by simp
    have:=VR.sl (ι:=ι.upd H.len ⟨w.heap.size,0,usz (uK P e),((Array.range (cn * z.length)).map (zv.cells[· % zv.cells.size]!)).size⟩) (i:=H.len) (o:=0) (n:=ln) (gc:=cn+1) (c:=cn) (Inj.upd_same _ _ _) (by omega) (.inr rfl) (by
     rcases uK_size (P:=P) (e:=e) (n:=i.size) (by simp [szK,hi]) hb with e1|e1
     ·left;simp [e1,usz]
     ·right;simp only [e1,hsize,hsz];omega)
    simpa using this
  ·cases hr
 ·cases hr
end
end Go.Gh
