/-
  Parts of the proof: walks of the ghost functions and the laws of what they compute. No condition.
-/
import Derived.Test.YtjjcgaompnjbdaaGreatDoorK4
import Derived.Lib.ValidU
import Derived.Lib.Bytealg
import Derived.Lib.TrimU
import Derived.KernelRfl
import Derived.Lib.IndexMore
import Derived.Lib.Replace
import Derived.Lib.Split
section
namespace Go.Gh
set_option linter.unusedSimpArgs false
set_option linter.unusedVariables false
set_option maxHeartbeats 4000000
def runValid:List Value→Option Value
 |[.string s]=>if s.size≤9223372036854775807 then some (.bool (Go.Lib.validD s.data.toList)) else none
 |_=>none
def runIndexByte:List Value→Option Value
 |[.string s,.int .u8 c]=>some (.int .i64 (Go.Lib.indexByte s.data.toList c.toNat.toUInt8))
 |_=>none
end Go.Gh
end
section
namespace Go.Gh
set_option linter.unusedSimpArgs false
set_option linter.unusedVariables false
set_option maxHeartbeats 4000000
open Go.RowKit
theorem gev_GWP {G:FuncId→Option GEnt} {f:FuncId} {g:GFun} (hG:G f=some (.pure g)) {args:List Value} (ha:args.all litOk=true) {v:Value} (hv:litVal v=true)
 (h:∀ Post:Value→GHeap→Prop,(∀ H',Post v H')→GW (gev G) g.body [] (GR g.rets Post) (frameOf 0 args .nil) ⟨.nil,0,0⟩) (H:GHeap):gev G f args H=some (v,H):=by
 obtain ⟨m,v',H',h1,h2⟩:=gbody_of (call:=gev G) (g:=g) (args:=args) (H:=⟨.nil,0,0⟩) (R:=fun v' _=>v'=v) (gwp_mono (h (fun v' _=>v'=v) fun _=>rfl).ok fun e fr H h=>by
  cases e with
  |normal=>exact h.ok
  |ret=>exact h.ok
  |exit id=>exact h
  |goto l=>exact h)
 subst h2
 exact gev_pure hG ha hv h1
theorem gev_run {G:FuncId→Option GEnt} {f:FuncId} {g:GFun} (hG:G f=some (.pure g)) {m d:Nat} {args:List Value} (ha:args.all litOk=true) {v:Value} (hv:litVal v=true)
 (h:(gbody (gcall G m d) m g args ⟨.nil,0,0⟩).map (·.1)=some v) (H:GHeap):gev G f args H=some (v,H):=by
 simp only [Option.map_eq_some_iff] at h
 obtain ⟨⟨v',H'⟩,h1,rfl⟩:=h
 exact gev_pure hG ha hv (m:=m) (gbody_mono (fun f args H r h=>gev_of_gcall h) (Nat.le_refl _) h1)
theorem one_of {G:FuncId→Option GEnt} {f:FuncId} {args:List Value} {H:GHeap} {v:Value} (e:gev G f args H=some (v,H)):∃ r H',gev G f args H=some (r,H')∧(r=v∧H'=H):=⟨v,H,e,rfl,rfl⟩
section
variable {call:GCall} {fr:Fr} {H:GHeap} {i:Nat} {s:ByteArray} {pos:Nat}
theorem gnext_yes (hl:H.lim≤i) (ho:H.obj i=some (.iter s pos)) (hp:pos < s.size):gnext H (.pointer (some ⟨i,0,none⟩))=some (.tuple #[.bool true,.int .i64 (pos:Int),.int .i32 ((Utf8.decode s pos).1:Int)],H.put i (.iter s (pos+(Utf8.decode s pos).2))):=by
 simp only [gnext]
 rw [if_pos hl,ho]
 simp only
 rw [if_pos hp]
theorem gnext_no (hl:H.lim≤i) (ho:H.obj i=some (.iter s pos)) (hp:¬ pos < s.size):gnext H (.pointer (some ⟨i,0,none⟩))=some (.tuple #[.bool false],H):=by
 simp only [gnext]
 rw [if_pos hl,ho]
 simp only
 rw [if_neg hp]
def rnsF (s:ByteArray):Nat→Nat→List Nat
 |0,_=>[]
 |k+1,pos=>if pos < s.size then (Utf8.decode s pos).1 :: rnsF s k (pos+(Utf8.decode s pos).2) else []
def rnsAt (s:ByteArray) (pos:Nat):List Nat:=rnsF s (s.size - pos) pos
def rns (s:ByteArray):List Nat:=rnsAt s 0
theorem rnsF_fuel (s:ByteArray):∀ (k k' pos:Nat),s.size - pos≤k→s.size - pos≤k'→rnsF s k pos=rnsF s k' pos
 |0,0,_,_,_=>rfl
 |0,k'+1,pos,h,_=>by simp only [rnsF];rw [if_neg (by omega)]
 |k+1,0,pos,_,h=>by simp only [rnsF];rw [if_neg (by omega)]
 |k+1,k'+1,pos,h,h'=>by
  have hw:=Go.Lib.width_pos s pos
  simp only [rnsF]
  split
  ·rw [rnsF_fuel s k k' _ (by omega) (by omega)]
  ·rfl
theorem rnsAt_yes {s:ByteArray} {pos:Nat} (h:pos < s.size):rnsAt s pos=(Utf8.decode s pos).1 :: rnsAt s (pos+(Utf8.decode s pos).2):=by
 have hw:=Go.Lib.width_pos s pos
 unfold rnsAt
 obtain ⟨k,hk⟩:∃ k,s.size - pos=k+1:=⟨s.size - pos - 1,by omega⟩
 rw [hk,rnsF,if_pos h,rnsF_fuel s k (s.size - (pos+(Utf8.decode s pos).2)) _ (by omega) (by omega)]
theorem rnsAt_no {s:ByteArray} {pos:Nat} (h:¬ pos < s.size):rnsAt s pos=[]:=by
 unfold rnsAt
 rw [show s.size - pos=0 by omega];rfl
theorem rnsAt_len (s:ByteArray):∀ (k pos:Nat),s.size - pos≤k→(rnsAt s pos).length≤s.size - pos
 |0,pos,h=>by rw [rnsAt_no (by omega)];simp
 |k+1,pos,h=>by
  by_cases hp:pos < s.size
  ·have hw:=Go.Lib.width_pos s pos
   rw [rnsAt_yes hp]
   have:=rnsAt_len s k (pos+(Utf8.decode s pos).2) (by omega)
   simp only [List.length_cons];omega
  ·rw [rnsAt_no hp];simp
theorem rns_len (s:ByteArray):(rns s).length≤s.size:=rnsAt_len s _ 0 (Nat.le_refl _)
structure ItAt (H:GHeap) (v:Value) (l:List Nat):Prop where
 ex:∃ i s pos,v=.pointer (some ⟨i,0,none⟩)∧H.lim≤i∧H.obj i=some (.iter s pos)∧l=rnsAt s pos
def itId:Value→Nat
 |.pointer (some a)=>a.block
 |_=>0
theorem ItAt.new (hl:H.lim≤H.len):ItAt (H.add (some (.iter s 0))) (.pointer (some ⟨H.len,0,none⟩)) (rns s):=
 ⟨H.len,s,0,rfl,hl,by rw [obj_add,if_pos rfl],rfl⟩
theorem ItAt.nil {v:Value} (h:ItAt H v []):gnext H v=some (.tuple #[.bool false],H):=by
 obtain ⟨i,s,pos,rfl,h1,h2,h3⟩:=h.ex
 refine gnext_no h1 h2 fun hp=>?_
 rw [rnsAt_yes hp] at h3;cases h3
theorem ItAt.cons {v:Value} {r:Nat} {l:List Nat} (h:ItAt H v (r :: l)):∃ (pos:Nat) (o:GObj),gnext H v=some (.tuple #[.bool true,.int .i64 (pos:Int),.int .i32 (r:Int)],H.put (itId v) o)∧ItAt (H.put (itId v) o) v l∧r≤1114111:=by
 obtain ⟨i,s,pos,rfl,h1,h2,h3⟩:=h.ex
 by_cases hp:pos < s.size
 ·rw [rnsAt_yes hp] at h3
  simp only [List.cons.injEq] at h3
  obtain ⟨rfl,rfl⟩:=h3
  exact ⟨pos,_,gnext_yes h1 h2 hp,⟨i,s,_,rfl,h1,by simp [GHeap.obj,GHeap.put,itId],rfl⟩,Go.Lib.rune_le s pos⟩
 ·rw [rnsAt_no hp] at h3;cases h3
theorem ItAt.lt {v:Value} {l:List Nat} (hw:H.wf) (h:ItAt H v l):itId v < H.len:=by
 obtain ⟨i,s,pos,rfl,h1,h2,h3⟩:=h.ex
 exact (hw.2 i).1 (by rw [h2];rfl)
theorem ItAt.keep {H':GHeap} {v:Value} {l:List Nat} (h:ItAt H v l) (hl:H'.lim=H.lim) (ho:H'.obj (itId v)=H.obj (itId v)):ItAt H' v l:=by
 obtain ⟨i,s,pos,rfl,h1,h2,h3⟩:=h.ex
 exact ⟨i,s,pos,rfl,by rw [hl];exact h1,Eq.trans ho h2,h3⟩
end
end Go.Gh
end
section
namespace Go.Gh
set_option linter.unusedSimpArgs false
set_option linter.unusedVariables false
set_option maxHeartbeats 4000000
set_option maxRecDepth 100000
def allS:ByteArray:=⟨#[32,33,34,35,36,37,38,39,40,41,42,43,44,45,46,47,48,49,50,51,52,53,54,55,56,57,58,59,60,61,62,63,64,65,66,67,68,69,70,71,72,73,74,75,76,77,78,79,80,81,82,83,84,85,86,87,88,89,90,91,92,93,94,95,96,97,98,99,100,101,102,103,104,105,106,107,108,109,110,111,112,113,114,115,116,117,118,119,120,121,122,123,124,125,126,194,161,194,162,194,163,194,164,194,165,194,166,194,167,194,169,194,171,194,174,194,176,194,183,194,187,194,189,194,191,195,128,195,129,195,130,195,131,195,132,195,133,195,134,195,135,195,136,195,137,195,138,195,139,195,140,195,141,195,142,195,143,195,145,195,146,195,147,195,148,195,149,195,150,195,152,195,153,195,154,195,155,195,156,195,159,195,160,195,161,195,162,195,163,195,164,195,165,195,166,195,167,195,168,195,169,195,170,195,171,195,172,195,173,195,174,195,175,195,177,195,178,195,179,195,180,195,181,195,182,195,184,195,185,195,186,195,187,195,188,197,146,197,147,226,128,148,226,128,152,226,128,153,226,128,156,226,128,157,226,128,162,226,128,166,226,132,162,226,153,170]⟩
def basesS:ByteArray:=⟨#[33,99,76,36,89,124,83,67,34,82,111,46,34,50,63,65,65,65,65,65,65,65,67,69,69,69,69,73,73,73,73,78,79,79,79,79,79,79,85,85,85,85,115,97,97,97,97,97,97,97,99,101,101,101,101,105,105,105,105,110,111,111,111,111,111,111,117,117,117,117,79,111,45,39,39,34,34,46,46,84,35]⟩
def REP:List Nat:=[32,33,34,35,36,37,38,39,40,41,42,43,44,45,46,47,48,49,50,51,52,53,54,55,56,57,58,59,60,61,62,63,64,65,66,67,68,69,70,71,72,73,74,75,76,77,78,79,80,81,82,83,84,85,86,87,88,89,90,91,92,93,94,95,96,97,98,99,100,101,102,103,104,105,106,107,108,109,110,111,112,113,114,115,116,117,118,119,120,121,122,123,124,125,126,161,162,163,164,165,166,167,169,171,174,176,183,187,189,191,192,193,194,195,196,197,198,199,200,201,202,203,204,205,206,207,209,210,211,212,213,214,216,217,218,219,220,223,224,225,226,227,228,229,230,231,232,233,234,235,236,237,238,239,241,242,243,244,245,246,248,249,250,251,252,338,339,8212,8216,8217,8220,8221,8226,8230,8482,9834]
def MARKS:List Nat:=[33,34,39,40,41,44,45,46,47,58,59,63,91,93,161,171,187,191,8212,8216,8217,8220,8221,8230]
def LETS:List Nat:=[192,193,194,195,196,197,198,199,200,201,202,203,204,205,206,207,209,210,211,212,213,214,216,217,218,219,220,223,224,225,226,227,228,229,230,231,232,233,234,235,236,237,238,239,241,242,243,244,245,246,248,249,250,251,252,338,339]
def UPS:List Nat:=[224,225,226,227,228,229,230,231,232,233,234,235,236,237,238,239,241,242,243,244,245,246,248,249,250,251,252]
def LOWS:List Nat:=[192,193,194,195,196,197,198,199,200,201,202,203,204,205,206,207,209,210,211,212,213,214,216,217,218,219,220]
def TAIL:List Nat:=[161,162,163,164,165,166,167,169,171,174,176,183,187,189,191,192,193,194,195,196,197,198,199,200,201,202,203,204,205,206,207,209,210,211,212,213,214,216,217,218,219,220,223,224,225,226,227,228,229,230,231,232,233,234,235,236,237,238,239,241,242,243,244,245,246,248,249,250,251,252,338,339,8212,8216,8217,8220,8221,8226,8230,8482,9834]
def BASES:List Nat:=[33,99,76,36,89,124,83,67,34,82,111,46,34,50,63,65,65,65,65,65,65,65,67,69,69,69,69,73,73,73,73,78,79,79,79,79,79,79,85,85,85,85,115,97,97,97,97,97,97,97,99,101,101,101,101,105,105,105,105,110,111,111,111,111,111,111,117,117,117,117,79,111,45,39,39,34,34,46,46,84,35]
theorem rns_all:rns allS=REP:=by kernel_rfl
theorem bases_at:basesS.data.toList.map (·.toNat)=BASES:=by kernel_rfl
def fnd:List Nat→Int→Option Nat
 |[],_=>none
 |x :: l,r=>if (x:Int)=r then some 0 else (fnd l r).map (·+1)
def fndI (l:List Nat) (r:Int):Int:=match fnd l r with
 |some n=>n
 |none=>-1
theorem fnd_lt:∀ (l:List Nat) (r:Int) (n:Nat),fnd l r=some n→n < l.length∧(l[n]!:Int)=r
 |[],_,_,h=>by cases h
 |x :: l,r,n,h=>by
  simp only [fnd] at h
  split at h
  ·cases h;rename_i hx;exact ⟨by simp,by simpa using hx⟩
  ·simp only [Option.map_eq_some_iff] at h
   obtain ⟨m,hm,rfl⟩:=h
   obtain ⟨h1,h2⟩:=fnd_lt l r m hm
   exact ⟨by simp;omega,by simpa using h2⟩
theorem fnd_none:∀ (l:List Nat) (r:Int),fnd l r=none↔∀ x ∈ l,(x:Int)≠r
 |[],_=>by simp [fnd]
 |x :: l,r=>by
  simp only [fnd]
  split
  ·rename_i hx;simp [hx]
  ·rename_i hx
   simp only [Option.map_eq_none_iff,fnd_none l r,List.mem_cons,forall_eq_or_imp]
   exact ⟨fun h=>⟨hx,h⟩,fun h=>h.2⟩
def idxN (r:Int):Int:=if 32≤r∧r≤126 then r - 32 else fndI REP r
def inB (l:List Nat) (r:Int):Bool:=(fnd l r).isSome
def clsA (r:Int):Int:=
 if idxN r < 0 then 0 else if r=32 then 1 else if 48≤r∧r≤57 then 2
 else if (65≤r∧r≤90)∨(97≤r∧r≤122)∨(192≤r∧r≤255)∨r=338∨r=339 then 3
 else if inB MARKS r=true then 4 else if r=9834 then 6 else 5
def clsB (r:Int):Int:=
 if idxN r < 0 then 0 else if r=32 then 1 else if 48≤r∧r≤57 then 2
 else if (65≤r∧r≤90)∨(97≤r∧r≤122)∨inB LETS r=true then 3
 else if inB MARKS r=true then 4 else if r=9834 then 6 else 5
def uppA (r:Int):Int:=if idxN r < 0 then 0 else if (97≤r∧r≤122)∨(224≤r∧r≤255) then r - 32 else if r=339 then 338 else r
def uppB (r:Int):Int:=if idxN r < 0 then 0 else if (97≤r∧r≤122)∨inB UPS r=true then r - 32 else if r=339 then 338 else r
def lowA (r:Int):Int:=if idxN r < 0 then 0 else if (65≤r∧r≤90)∨(192≤r∧r < 223) then r+32 else if r=338 then 339 else r
def lowB (r:Int):Int:=if idxN r < 0 then 0 else if (65≤r∧r≤90)∨inB LOWS r=true then r+32 else if r=338 then 339 else r
def basA (r:Int):Int:=if idxN r < 0 then 0 else if idxN r < 95 then r else (BASES[(idxN r - 95).toNat]!:Nat)
def basB (r:Int):Int:=if idxN r < 0 then 0 else if r < 128 then r else match fnd TAIL r with
 |some k=>(BASES[k]!:Nat)
 |none=>r
theorem rep_len:REP.length=176:=rfl
theorem idx_fnd:(REP.all fun x=>idxN x == fndI REP x)=true:=by kernel_rfl
theorem idx_cases (r:Int):(idxN r=-1∧(∀ x ∈ REP,(x:Int)≠r))∨(∃ n:Nat,n < 176∧idxN r=n∧((REP[n]!:Nat):Int)=r):=by
 by_cases h:∀ x ∈ REP,(x:Int)≠r
 ·left
  refine ⟨?_,h⟩
  have h1:¬ (32≤r∧r≤126):=by
   rintro ⟨h2,h3⟩
   have:∀ n:Nat,32≤n→n≤126→n ∈ REP:=by
    intro n a b
    have:∀ k:Fin 127,32≤k.val→k.val ∈ REP:=by decide+kernel
    exact this ⟨n,by omega⟩ a
   exact h r.toNat (this _ (by omega) (by omega)) (by omega)
  unfold idxN
  rw [if_neg h1,fndI,(fnd_none REP r).2 h]
 ·right
  simp only [Classical.not_forall,Decidable.not_not] at h
  obtain ⟨x,hx,rfl⟩:=h
  have h1:=List.all_eq_true.1 idx_fnd x hx
  simp only [beq_iff_eq] at h1
  cases hf:fnd REP (x:Int) with
  |none=>exact absurd rfl ((fnd_none REP _).1 hf x hx)
  |some n=>
   obtain ⟨k1,k2⟩:=fnd_lt _ _ _ hf
   exact ⟨n,by rw [rep_len] at k1;exact k1,by rw [h1,fndI,hf],k2⟩
theorem idx_pos {r:Int} (h:¬ idxN r < 0):∃ n:Nat,n < 176∧idxN r=n∧((REP[n]!:Nat):Int)=r:=by
 rcases idx_cases r with ⟨e,_⟩|k
 ·omega
 ·exact k
theorem idx_mem {r:Int} (h:¬ idxN r < 0):∃ x ∈ REP,(x:Int)=r:=by
 obtain ⟨n,h1,_,h2⟩:=idx_pos h
 exact ⟨REP[n]!,by rw [getElem!_pos REP n (by rw [rep_len];exact h1)];exact List.getElem_mem _,h2⟩
theorem tables:(REP.all fun x=>clsA x == clsB x && uppA x == uppB x && lowA x == lowB x && basA x == basB x)=true:=by kernel_rfl
end Go.Gh
end
section
namespace Go.Gh
set_option linter.unusedSimpArgs false
set_option linter.unusedVariables false
set_option maxHeartbeats 4000000
def runContains:List Value→Option Value
 |[.string s,.string sub]=>if s.size < 4294967281 then some (.bool (Go.Lib.contains s.data.toList sub.data.toList)) else none
 |_=>none
end Go.Gh
end
