/-
  Parts of the proof: walks of the ghost functions and the laws of what they compute. No condition.
-/
import Derived.Test.YtjjcgaompnjbdaaGreatDoorK4
import Derived.Test.YtjjcgaompnjbdaaGreatDoorQ1
import Derived.Test.YtjjcgaompnjbdaaGreatDoorSyG
import Derived.Lib.ValidLaws
import Derived.Lib.TrimUEq
import Derived.Lib.MapLaws
import Derived.Test.YtjjcgaompnjbdaaGreatDoorQ2
section
namespace Go.Gh
set_option linter.unusedVariables false
set_option linter.unusedSimpArgs false
theorem G1.imp {x:Option (Value × GHeap)} {K K':Value→GHeap→Prop} (h:G1 x K) (k:∀ v H',K v H'→K' v H'):G1 x K':=by
 have h:=h.ok
 cases x with
 |none=>exact h.elim
 |some p=>exact ⟨k _ _ h⟩
structure H1 (x:Option (Value × GHeap)) (K:Value→GHeap→Prop):Prop where
 ok:G1 x K
@[congr] theorem H1_congr {x y:Option (Value × GHeap)} {K:Value→GHeap→Prop} (h:x=y):H1 x K=H1 y K:=by rw [h]
structure Hs (s:Option Bool) (x:Option Value) (A B C D:Prop):Prop where
 ok:Gs s x A B C D
@[congr] theorem Hs_congr {s:Option Bool} {x y:Option Value} {A B C D:Prop} (h:x=y):Hs s x A B C D=Hs s y A B C D:=by rw [h]
structure H2 (x:Option Value) (K:Value→Prop):Prop where
 ok:G2 x K
@[congr] theorem H2_congr {x y:Option Value} {K:Value→Prop} (h:x=y):H2 x K=H2 y K:=by rw [h]
structure Hz (t:Bool) (C D:Prop):Prop where
 c:t=true→C
 d:t=false→D
theorem zh {t:Bool} {C D:Prop} (c:t=true→C) (d:t=false→D):Hz t C D:=⟨c,d⟩
instance {v:Value} {H':GHeap} {K:Value→GHeap→Prop}:Nx (H1 (some (v,H')) K) (K v H'):=⟨fun h=>⟨G1_go h⟩⟩
instance {v:Value} {K:Value→Prop}:Nx (H2 (some v) K) (K v):=⟨fun h=>⟨zg h⟩⟩
section
variable {s:Option Bool} {A B C D:Prop} {t:Bool}
instance (priority:=low):Nx (Hs s (some (.bool t)) A B C D) (Hz t C D):=⟨fun h=>⟨zz h.c h.d⟩⟩
instance:Nx (Hs s (some (.bool true)) A B C D) A:=⟨fun h=>⟨zx h⟩⟩
instance:Nx (Hs s (some (.bool false)) A B C D) B:=⟨fun h=>⟨zy h⟩⟩
instance:Nx (Hs (some true) (some undef) A B C D) B:=⟨fun h=>⟨zv h⟩⟩
instance:Nx (Hs (some false) (some undef) A B C D) A:=⟨fun h=>⟨zw h⟩⟩
end
section
variable {s:Option Bool} {A B C D:Prop}
theorem zt (h:A):Hs s (some (.bool true)) A B C D:=⟨zx h⟩
theorem zf (h:B):Hs s (some (.bool false)) A B C D:=⟨zy h⟩
end
class Oy (P:Prop) (Q:outParam Prop):Prop where
 pf:Q→P
theorem zp {P Q:Prop} [h:Oy P Q] (q:Q):P:=h.pf q
section
variable {call:GCall} {run:Fr→GHeap→GOp→Option (Value × GHeap)} {r:List GOper} {q:List (Bool × GOper)} {hid:List Nat} {ks:List Kt} {R:Fr→GHeap→Prop} {K:Fr→GHeap→Prop} {op:GOp} {d g:Nat} {fr:Fr} {H:GHeap} {a b:GCode}
instance:Oy (Gw run (⟨some d,none,op⟩ :: r) K fr H) (H1 (run fr H op) fun v H'=>Gw run r K (fr.set d v) H'):=⟨fun h=>Gw_s fun _ hK=>h.ok.imp hK⟩
instance:Oy (Gp call hid ((false,⟨some d,none,op⟩) :: q) K fr H) (H1 (gdo call fr H op) fun v H'=>Gp call hid q K (fr.set d v) H'):=⟨fun h=>Gp_s fun _ hK=>h.ok.imp hK⟩
instance:Oy (Gw run (⟨none,none,op⟩ :: r) K fr H) (H1 (run fr H op) fun _ H'=>Gw run r K fr H'):=⟨fun h=>Gw_0 fun _ hK=>h.ok.imp hK⟩
instance:Oy (Gw run (⟨some d,some (g,true),op⟩ :: r) K fr H) (Hs (some true) (fr.get g) (H1 (run fr H op) fun v H'=>Gw run r K (fr.set d v) H') (Gw run r K (fr.set d undef) H)
 (H1 (run (fr.set g (.bool true)) H op) fun v H'=>Gw run r K ((fr.set g (.bool true)).set d v) H') (Gw run r K ((fr.set g (.bool false)).set d undef) H)):=⟨fun h=>zm fun A B C D a b c d=>by
 rcases h.ok.ok with hd|⟨hx,hb⟩
 ·exact ⟨.inl (hd.imp (fun h=>a fun _ hK=>h.ok.imp hK) b (fun h=>c fun _ hK=>h.ok.imp hK) d)⟩
 ·exact ⟨.inr ⟨hx,b hb⟩⟩⟩
instance:Oy (Gw run (⟨some d,some (g,false),op⟩ :: r) K fr H) (Hs (some false) (fr.get g) (Gw run r K (fr.set d undef) H) (H1 (run fr H op) fun v H'=>Gw run r K (fr.set d v) H')
 (Gw run r K ((fr.set g (.bool true)).set d undef) H) (H1 (run (fr.set g (.bool false)) H op) fun v H'=>Gw run r K ((fr.set g (.bool false)).set d v) H')):=⟨fun h=>zm fun A B C D a b c d=>by
 rcases h.ok.ok with hd|⟨hx,hb⟩
 ·exact ⟨.inl (hd.imp a (fun h=>b fun _ hK=>h.ok.imp hK) c (fun h=>d fun _ hK=>h.ok.imp hK))⟩
 ·exact ⟨.inr ⟨hx,a hb⟩⟩⟩
instance:Oy (GW call (.cond (.t d) a b) ks R fr H) (Hs none (fr.get d) (GW call a ks R fr H) (GW call b ks R fr H) (GW call a ks R (fr.set d (.bool true)) H) (GW call b ks R (fr.set d (.bool false)) H)):=⟨fun h=>zm fun A B C D a b c d=>by
 rcases h.ok.ok with hd|⟨hx,hb⟩
 ·exact ⟨.inl (hd.imp a b c d)⟩
 ·exact hb.elim⟩
instance {rets:List GRet} {Post:Value→GHeap→Prop}:Oy (GR rets Post fr H) (H2 ((gresults fr H rets).map gone) fun v=>Post v H):=⟨fun h=>zm fun _ hK=>by
 obtain ⟨v,e,hv⟩:=h.ok.ok
 exact ⟨v,e,hK v hv⟩⟩
end
instance {x:Option (Value × GHeap)} {K:Value→GHeap→Prop}:Oy (H1 x K) (H1 x K):=⟨id⟩
theorem IsSl.ix {v:Value} {n:Nat} (h:IsSl v n):∀ ⦃size:Nat⦄ ⦃k:IntKind⦄ ⦃j:Int⦄,0≤j→j < n→gia none size v (.int k j)=some (.pointer (some ⟨blk v,ofs v+j.toNat * size,none⟩)):=fun _ _ _ h0 h1=>h.ia h0 h1
theorem zz1 {X0 P Q:Prop} (x0:X0) (q:Q) (h:X0→Q→P:=by intro x0 q;(first|refine zn ?_|((first|refine zp ?_|skip);simp (disch:=first|exact zd|fail) only [↓yS,yT,gresults,gone,↓reduceIte,Nat.reduceEqDiff,Nat.reduceAdd,Nat.reduceMul,reduceCtorEq,Int.reduceToNat,beq_self_eq_true,Bool.not_true,Bool.not_false,x0];first|refine zt ?_|refine zf ?_|refine zn ?_)|refine zK rfl ?_|refine zP rfl ?_);(repeat (first|refine zn ?_|((first|refine zp ?_|skip);simp (disch:=first|exact zd|fail) only [↓yS,yT,gresults,gone,↓reduceIte,Nat.reduceEqDiff,Nat.reduceAdd,Nat.reduceMul,reduceCtorEq,Int.reduceToNat,x0];first|refine zt ?_|refine zf ?_|refine zn ?_)|refine zK rfl ?_|refine zP rfl ?_));exact q):P:=h x0 q
theorem zz2 {X0 X1 P Q:Prop} (x0:X0) (x1:X1) (q:Q) (h:X0∧X1→Q→P:=by intro x q;refine zz1 x ?_;exact q):P:=h ⟨x0,x1⟩ q
theorem zz3 {X0 X1 X2 P Q:Prop} (x0:X0) (x1:X1) (x2:X2) (q:Q) (h:X0∧X1∧X2→Q→P:=by intro x q;refine zz1 x ?_;exact q):P:=h ⟨x0,x1,x2⟩ q
theorem zz4 {X0 X1 X2 X3 P Q:Prop} (x0:X0) (x1:X1) (x2:X2) (x3:X3) (q:Q) (h:X0∧X1∧X2∧X3→Q→P:=by intro x q;refine zz1 x ?_;exact q):P:=h ⟨x0,x1,x2,x3⟩ q
theorem zz5 {X0 X1 X2 X3 X4 P Q:Prop} (x0:X0) (x1:X1) (x2:X2) (x3:X3) (x4:X4) (q:Q) (h:X0∧X1∧X2∧X3∧X4→Q→P:=by intro x q;refine zz1 x ?_;exact q):P:=h ⟨x0,x1,x2,x3,x4⟩ q
theorem zz6 {X0 X1 X2 X3 X4 X5 P Q:Prop} (x0:X0) (x1:X1) (x2:X2) (x3:X3) (x4:X4) (x5:X5) (q:Q) (h:X0∧X1∧X2∧X3∧X4∧X5→Q→P:=by intro x q;refine zz1 x ?_;exact q):P:=h ⟨x0,x1,x2,x3,x4,x5⟩ q
theorem zz7 {X0 X1 X2 X3 X4 X5 X6 P Q:Prop} (x0:X0) (x1:X1) (x2:X2) (x3:X3) (x4:X4) (x5:X5) (x6:X6) (q:Q) (h:X0∧X1∧X2∧X3∧X4∧X5∧X6→Q→P:=by intro x q;refine zz1 x ?_;exact q):P:=h ⟨x0,x1,x2,x3,x4,x5,x6⟩ q
theorem zz8 {X0 X1 X2 X3 X4 X5 X6 X7 P Q:Prop} (x0:X0) (x1:X1) (x2:X2) (x3:X3) (x4:X4) (x5:X5) (x6:X6) (x7:X7) (q:Q) (h:X0∧X1∧X2∧X3∧X4∧X5∧X6∧X7→Q→P:=by intro x q;refine zz1 x ?_;exact q):P:=h ⟨x0,x1,x2,x3,x4,x5,x6,x7⟩ q
theorem zz9 {X0 X1 X2 X3 X4 X5 X6 X7 X8 P Q:Prop} (x0:X0) (x1:X1) (x2:X2) (x3:X3) (x4:X4) (x5:X5) (x6:X6) (x7:X7) (x8:X8) (q:Q) (h:X0∧X1∧X2∧X3∧X4∧X5∧X6∧X7∧X8→Q→P:=by intro x q;refine zz1 x ?_;exact q):P:=h ⟨x0,x1,x2,x3,x4,x5,x6,x7,x8⟩ q
theorem zz10 {X0 X1 X2 X3 X4 X5 X6 X7 X8 X9 P Q:Prop} (x0:X0) (x1:X1) (x2:X2) (x3:X3) (x4:X4) (x5:X5) (x6:X6) (x7:X7) (x8:X8) (x9:X9) (q:Q) (h:X0∧X1∧X2∧X3∧X4∧X5∧X6∧X7∧X8∧X9→Q→P:=by intro x q;refine zz1 x ?_;exact q):P:=h ⟨x0,x1,x2,x3,x4,x5,x6,x7,x8,x9⟩ q
theorem zz11 {X0 X1 X2 X3 X4 X5 X6 X7 X8 X9 X10 P Q:Prop} (x0:X0) (x1:X1) (x2:X2) (x3:X3) (x4:X4) (x5:X5) (x6:X6) (x7:X7) (x8:X8) (x9:X9) (x10:X10) (q:Q) (h:X0∧X1∧X2∧X3∧X4∧X5∧X6∧X7∧X8∧X9∧X10→Q→P:=by intro x q;refine zz1 x ?_;exact q):P:=h ⟨x0,x1,x2,x3,x4,x5,x6,x7,x8,x9,x10⟩ q
theorem zz12 {X0 X1 X2 X3 X4 X5 X6 X7 X8 X9 X10 X11 P Q:Prop} (x0:X0) (x1:X1) (x2:X2) (x3:X3) (x4:X4) (x5:X5) (x6:X6) (x7:X7) (x8:X8) (x9:X9) (x10:X10) (x11:X11) (q:Q) (h:X0∧X1∧X2∧X3∧X4∧X5∧X6∧X7∧X8∧X9∧X10∧X11→Q→P:=by intro x q;refine zz1 x ?_;exact q):P:=h ⟨x0,x1,x2,x3,x4,x5,x6,x7,x8,x9,x10,x11⟩ q
theorem zz13 {X0 X1 X2 X3 X4 X5 X6 X7 X8 X9 X10 X11 X12 P Q:Prop} (x0:X0) (x1:X1) (x2:X2) (x3:X3) (x4:X4) (x5:X5) (x6:X6) (x7:X7) (x8:X8) (x9:X9) (x10:X10) (x11:X11) (x12:X12) (q:Q) (h:X0∧X1∧X2∧X3∧X4∧X5∧X6∧X7∧X8∧X9∧X10∧X11∧X12→Q→P:=by intro x q;refine zz1 x ?_;exact q):P:=h ⟨x0,x1,x2,x3,x4,x5,x6,x7,x8,x9,x10,x11,x12⟩ q
theorem zz14 {X0 X1 X2 X3 X4 X5 X6 X7 X8 X9 X10 X11 X12 X13 P Q:Prop} (x0:X0) (x1:X1) (x2:X2) (x3:X3) (x4:X4) (x5:X5) (x6:X6) (x7:X7) (x8:X8) (x9:X9) (x10:X10) (x11:X11) (x12:X12) (x13:X13) (q:Q) (h:X0∧X1∧X2∧X3∧X4∧X5∧X6∧X7∧X8∧X9∧X10∧X11∧X12∧X13→Q→P:=by intro x q;refine zz1 x ?_;exact q):P:=h ⟨x0,x1,x2,x3,x4,x5,x6,x7,x8,x9,x10,x11,x12,x13⟩ q
theorem zz15 {X0 X1 X2 X3 X4 X5 X6 X7 X8 X9 X10 X11 X12 X13 X14 P Q:Prop} (x0:X0) (x1:X1) (x2:X2) (x3:X3) (x4:X4) (x5:X5) (x6:X6) (x7:X7) (x8:X8) (x9:X9) (x10:X10) (x11:X11) (x12:X12) (x13:X13) (x14:X14) (q:Q) (h:X0∧X1∧X2∧X3∧X4∧X5∧X6∧X7∧X8∧X9∧X10∧X11∧X12∧X13∧X14→Q→P:=by intro x q;refine zz1 x ?_;exact q):P:=h ⟨x0,x1,x2,x3,x4,x5,x6,x7,x8,x9,x10,x11,x12,x13,x14⟩ q
theorem zz16 {X0 X1 X2 X3 X4 X5 X6 X7 X8 X9 X10 X11 X12 X13 X14 X15 P Q:Prop} (x0:X0) (x1:X1) (x2:X2) (x3:X3) (x4:X4) (x5:X5) (x6:X6) (x7:X7) (x8:X8) (x9:X9) (x10:X10) (x11:X11) (x12:X12) (x13:X13) (x14:X14) (x15:X15) (q:Q) (h:X0∧X1∧X2∧X3∧X4∧X5∧X6∧X7∧X8∧X9∧X10∧X11∧X12∧X13∧X14∧X15→Q→P:=by intro x q;refine zz1 x ?_;exact q):P:=h ⟨x0,x1,x2,x3,x4,x5,x6,x7,x8,x9,x10,x11,x12,x13,x14,x15⟩ q
theorem zz17 {X0 X1 X2 X3 X4 X5 X6 X7 X8 X9 X10 X11 X12 X13 X14 X15 X16 P Q:Prop} (x0:X0) (x1:X1) (x2:X2) (x3:X3) (x4:X4) (x5:X5) (x6:X6) (x7:X7) (x8:X8) (x9:X9) (x10:X10) (x11:X11) (x12:X12) (x13:X13) (x14:X14) (x15:X15) (x16:X16) (q:Q) (h:X0∧X1∧X2∧X3∧X4∧X5∧X6∧X7∧X8∧X9∧X10∧X11∧X12∧X13∧X14∧X15∧X16→Q→P:=by intro x q;refine zz1 x ?_;exact q):P:=h ⟨x0,x1,x2,x3,x4,x5,x6,x7,x8,x9,x10,x11,x12,x13,x14,x15,x16⟩ q
theorem zz18 {X0 X1 X2 X3 X4 X5 X6 X7 X8 X9 X10 X11 X12 X13 X14 X15 X16 X17 P Q:Prop} (x0:X0) (x1:X1) (x2:X2) (x3:X3) (x4:X4) (x5:X5) (x6:X6) (x7:X7) (x8:X8) (x9:X9) (x10:X10) (x11:X11) (x12:X12) (x13:X13) (x14:X14) (x15:X15) (x16:X16) (x17:X17) (q:Q) (h:X0∧X1∧X2∧X3∧X4∧X5∧X6∧X7∧X8∧X9∧X10∧X11∧X12∧X13∧X14∧X15∧X16∧X17→Q→P:=by intro x q;refine zz1 x ?_;exact q):P:=h ⟨x0,x1,x2,x3,x4,x5,x6,x7,x8,x9,x10,x11,x12,x13,x14,x15,x16,x17⟩ q
theorem zz19 {X0 X1 X2 X3 X4 X5 X6 X7 X8 X9 X10 X11 X12 X13 X14 X15 X16 X17 X18 P Q:Prop} (x0:X0) (x1:X1) (x2:X2) (x3:X3) (x4:X4) (x5:X5) (x6:X6) (x7:X7) (x8:X8) (x9:X9) (x10:X10) (x11:X11) (x12:X12) (x13:X13) (x14:X14) (x15:X15) (x16:X16) (x17:X17) (x18:X18) (q:Q) (h:X0∧X1∧X2∧X3∧X4∧X5∧X6∧X7∧X8∧X9∧X10∧X11∧X12∧X13∧X14∧X15∧X16∧X17∧X18→Q→P:=by intro x q;refine zz1 x ?_;exact q):P:=h ⟨x0,x1,x2,x3,x4,x5,x6,x7,x8,x9,x10,x11,x12,x13,x14,x15,x16,x17,x18⟩ q
theorem zz20 {X0 X1 X2 X3 X4 X5 X6 X7 X8 X9 X10 X11 X12 X13 X14 X15 X16 X17 X18 X19 P Q:Prop} (x0:X0) (x1:X1) (x2:X2) (x3:X3) (x4:X4) (x5:X5) (x6:X6) (x7:X7) (x8:X8) (x9:X9) (x10:X10) (x11:X11) (x12:X12) (x13:X13) (x14:X14) (x15:X15) (x16:X16) (x17:X17) (x18:X18) (x19:X19) (q:Q) (h:X0∧X1∧X2∧X3∧X4∧X5∧X6∧X7∧X8∧X9∧X10∧X11∧X12∧X13∧X14∧X15∧X16∧X17∧X18∧X19→Q→P:=by intro x q;refine zz1 x ?_;exact q):P:=h ⟨x0,x1,x2,x3,x4,x5,x6,x7,x8,x9,x10,x11,x12,x13,x14,x15,x16,x17,x18,x19⟩ q
theorem zz21 {X0 X1 X2 X3 X4 X5 X6 X7 X8 X9 X10 X11 X12 X13 X14 X15 X16 X17 X18 X19 X20 P Q:Prop} (x0:X0) (x1:X1) (x2:X2) (x3:X3) (x4:X4) (x5:X5) (x6:X6) (x7:X7) (x8:X8) (x9:X9) (x10:X10) (x11:X11) (x12:X12) (x13:X13) (x14:X14) (x15:X15) (x16:X16) (x17:X17) (x18:X18) (x19:X19) (x20:X20) (q:Q) (h:X0∧X1∧X2∧X3∧X4∧X5∧X6∧X7∧X8∧X9∧X10∧X11∧X12∧X13∧X14∧X15∧X16∧X17∧X18∧X19∧X20→Q→P:=by intro x q;refine zz1 x ?_;exact q):P:=h ⟨x0,x1,x2,x3,x4,x5,x6,x7,x8,x9,x10,x11,x12,x13,x14,x15,x16,x17,x18,x19,x20⟩ q
theorem zz22 {X0 X1 X2 X3 X4 X5 X6 X7 X8 X9 X10 X11 X12 X13 X14 X15 X16 X17 X18 X19 X20 X21 P Q:Prop} (x0:X0) (x1:X1) (x2:X2) (x3:X3) (x4:X4) (x5:X5) (x6:X6) (x7:X7) (x8:X8) (x9:X9) (x10:X10) (x11:X11) (x12:X12) (x13:X13) (x14:X14) (x15:X15) (x16:X16) (x17:X17) (x18:X18) (x19:X19) (x20:X20) (x21:X21) (q:Q) (h:X0∧X1∧X2∧X3∧X4∧X5∧X6∧X7∧X8∧X9∧X10∧X11∧X12∧X13∧X14∧X15∧X16∧X17∧X18∧X19∧X20∧X21→Q→P:=by intro x q;refine zz1 x ?_;exact q):P:=h ⟨x0,x1,x2,x3,x4,x5,x6,x7,x8,x9,x10,x11,x12,x13,x14,x15,x16,x17,x18,x19,x20,x21⟩ q
theorem zz24 {X0 X1 X2 X3 X4 X5 X6 X7 X8 X9 X10 X11 X12 X13 X14 X15 X16 X17 X18 X19 X20 X21 X22 X23 P Q:Prop} (x0:X0) (x1:X1) (x2:X2) (x3:X3) (x4:X4) (x5:X5) (x6:X6) (x7:X7) (x8:X8) (x9:X9) (x10:X10) (x11:X11) (x12:X12) (x13:X13) (x14:X14) (x15:X15) (x16:X16) (x17:X17) (x18:X18) (x19:X19) (x20:X20) (x21:X21) (x22:X22) (x23:X23) (q:Q) (h:X0∧X1∧X2∧X3∧X4∧X5∧X6∧X7∧X8∧X9∧X10∧X11∧X12∧X13∧X14∧X15∧X16∧X17∧X18∧X19∧X20∧X21∧X22∧X23→Q→P:=by intro x q;refine zz1 x ?_;exact q):P:=h ⟨x0,x1,x2,x3,x4,x5,x6,x7,x8,x9,x10,x11,x12,x13,x14,x15,x16,x17,x18,x19,x20,x21,x22,x23⟩ q
section
variable {call:GCall} {fr:Fr} {H:GHeap} {f:GArg} {xs:List GArg} {g:FuncId} {vs:List Value} {Q K:Value→GHeap→Prop} {P:Prop}
theorem zq {X:Prop} {fr:Fr} {f:GArg} {xs:List GArg} {r:Option (FuncId × List Value)} (h:X→gtarget fr f xs=r:=by intro x;simp only [gtarget,↓GArg.ev,↓evs,↓Tr.get_set,Nat.reduceEqDiff,if_true,if_false,↓reduceIte,Option.map_some,x];rfl):X→gtarget fr f xs=r:=h
theorem zc0 [o:Oy P (H1 (gdo call fr H (.call f xs)) K)] (h:∃ v H',call g vs H=some (v,H')∧Q v H') (k:∀ v H',Q v H'→K v H') (ht:True→gtarget fr f xs=some (g,vs):=by exact zq):P:=o.pf ⟨G1_call (ht .intro) h k⟩
theorem zm0 [o:Oy P (H1 (gdoM call fr H (.call f xs)) K)] (h:∃ v H',call g vs H.up=some (v,H')∧Q v H') (k:∀ v H',Q v H'→K v (H'.down H.lim)) (ht:True→gtarget fr f xs=some (g,vs):=by exact zq):P:=o.pf ⟨G1_callM (ht .intro) h k⟩
theorem zc1 {X0:Prop} [o:Oy P (H1 (gdo call fr H (.call f xs)) K)] (x0:X0) (h:∃ v H',call g vs H=some (v,H')∧Q v H') (k:∀ v H',Q v H'→K v H') (ht:X0→gtarget fr f xs=some (g,vs):=by exact zq):P:=o.pf ⟨G1_call (ht x0) h k⟩
theorem zm1 {X0:Prop} [o:Oy P (H1 (gdoM call fr H (.call f xs)) K)] (x0:X0) (h:∃ v H',call g vs H.up=some (v,H')∧Q v H') (k:∀ v H',Q v H'→K v (H'.down H.lim)) (ht:X0→gtarget fr f xs=some (g,vs):=by exact zq):P:=o.pf ⟨G1_callM (ht x0) h k⟩
theorem zc2 {X0 X1:Prop} [o:Oy P (H1 (gdo call fr H (.call f xs)) K)] (x0:X0) (x1:X1) (h:∃ v H',call g vs H=some (v,H')∧Q v H') (k:∀ v H',Q v H'→K v H') (ht:X0∧X1→gtarget fr f xs=some (g,vs):=by exact zq):P:=o.pf ⟨G1_call (ht ⟨x0,x1⟩) h k⟩
theorem zc3 {X0 X1 X2:Prop} [o:Oy P (H1 (gdo call fr H (.call f xs)) K)] (x0:X0) (x1:X1) (x2:X2) (h:∃ v H',call g vs H=some (v,H')∧Q v H') (k:∀ v H',Q v H'→K v H') (ht:X0∧X1∧X2→gtarget fr f xs=some (g,vs):=by exact zq):P:=o.pf ⟨G1_call (ht ⟨x0,x1,x2⟩) h k⟩
theorem zc4 {X0 X1 X2 X3:Prop} [o:Oy P (H1 (gdo call fr H (.call f xs)) K)] (x0:X0) (x1:X1) (x2:X2) (x3:X3) (h:∃ v H',call g vs H=some (v,H')∧Q v H') (k:∀ v H',Q v H'→K v H') (ht:X0∧X1∧X2∧X3→gtarget fr f xs=some (g,vs):=by exact zq):P:=o.pf ⟨G1_call (ht ⟨x0,x1,x2,x3⟩) h k⟩
theorem zm4 {X0 X1 X2 X3:Prop} [o:Oy P (H1 (gdoM call fr H (.call f xs)) K)] (x0:X0) (x1:X1) (x2:X2) (x3:X3) (h:∃ v H',call g vs H.up=some (v,H')∧Q v H') (k:∀ v H',Q v H'→K v (H'.down H.lim)) (ht:X0∧X1∧X2∧X3→gtarget fr f xs=some (g,vs):=by exact zq):P:=o.pf ⟨G1_callM (ht ⟨x0,x1,x2,x3⟩) h k⟩
theorem zc5 {X0 X1 X2 X3 X4:Prop} [o:Oy P (H1 (gdo call fr H (.call f xs)) K)] (x0:X0) (x1:X1) (x2:X2) (x3:X3) (x4:X4) (h:∃ v H',call g vs H=some (v,H')∧Q v H') (k:∀ v H',Q v H'→K v H') (ht:X0∧X1∧X2∧X3∧X4→gtarget fr f xs=some (g,vs):=by exact zq):P:=o.pf ⟨G1_call (ht ⟨x0,x1,x2,x3,x4⟩) h k⟩
theorem zc6 {X0 X1 X2 X3 X4 X5:Prop} [o:Oy P (H1 (gdo call fr H (.call f xs)) K)] (x0:X0) (x1:X1) (x2:X2) (x3:X3) (x4:X4) (x5:X5) (h:∃ v H',call g vs H=some (v,H')∧Q v H') (k:∀ v H',Q v H'→K v H') (ht:X0∧X1∧X2∧X3∧X4∧X5→gtarget fr f xs=some (g,vs):=by exact zq):P:=o.pf ⟨G1_call (ht ⟨x0,x1,x2,x3,x4,x5⟩) h k⟩
theorem zm6 {X0 X1 X2 X3 X4 X5:Prop} [o:Oy P (H1 (gdoM call fr H (.call f xs)) K)] (x0:X0) (x1:X1) (x2:X2) (x3:X3) (x4:X4) (x5:X5) (h:∃ v H',call g vs H.up=some (v,H')∧Q v H') (k:∀ v H',Q v H'→K v (H'.down H.lim)) (ht:X0∧X1∧X2∧X3∧X4∧X5→gtarget fr f xs=some (g,vs):=by exact zq):P:=o.pf ⟨G1_callM (ht ⟨x0,x1,x2,x3,x4,x5⟩) h k⟩
theorem zc8 {X0 X1 X2 X3 X4 X5 X6 X7:Prop} [o:Oy P (H1 (gdo call fr H (.call f xs)) K)] (x0:X0) (x1:X1) (x2:X2) (x3:X3) (x4:X4) (x5:X5) (x6:X6) (x7:X7) (h:∃ v H',call g vs H=some (v,H')∧Q v H') (k:∀ v H',Q v H'→K v H') (ht:X0∧X1∧X2∧X3∧X4∧X5∧X6∧X7→gtarget fr f xs=some (g,vs):=by exact zq):P:=o.pf ⟨G1_call (ht ⟨x0,x1,x2,x3,x4,x5,x6,x7⟩) h k⟩
end
end Go.Gh
end
section
namespace Go.Gh
set_option linter.unusedSimpArgs false
set_option linter.unusedVariables false
set_option maxHeartbeats 4000000
open Go.RowKit
set_option maxRecDepth 4000
theorem root_wf:(⟨.nil,0,0⟩:GHeap).wf:=⟨Nat.le_refl _,fun i=>by simp [GHeap.obj,Tr.get_nil]⟩
theorem fndI_next {x:Nat} {l:List Nat} {r:Int} (h:¬ (x:Int)=r):fnd (x :: l) r=(fnd l r).map (·+1):=by simp only [fnd,if_neg h]
def fndR (n:Nat) (l:List Nat) (r:Int):Int:=match fnd l r with
 |some m=>(n+m:Nat)
 |none=>-1
theorem fndR_zero (l:List Nat) (r:Int):fndR 0 l r=fndI l r:=by unfold fndR fndI;cases fnd l r<;>simp
theorem fndR_yes {x:Nat} {l:List Nat} {r:Int} (n:Nat) (h:(x:Int)=r):fndR n (x :: l) r=n:=by simp [fndR,fnd,h]
theorem fndR_no {x:Nat} {l:List Nat} {r:Int} (n:Nat) (h:¬ (x:Int)=r):fndR n (x :: l) r=fndR (n+1) l r:=by
 simp only [fndR,fndI_next h]
 cases fnd l r with
 |none=>rfl
 |some m=>simp only [Option.map_some];congr 1;omega
theorem place_ok {s:ByteArray} (hs:s.size≤4611686018427387904) {r:Int} (H:GHeap):gev G 170 [.string s,.int .i32 r] H=some (.int .i64 (fndI (rns s) r),H):=by
 refine gev_GWP (f:=170) rfl rfl rfl (fun Post hPost=>?_) H
 have hw:=root_wf
 simp only [frameOf,Nat.reduceAdd]
 repeat' (first|refine zz1 @g170.eq_1 ?_|(refine zh (fun hc=>?_) (fun hc=>?_)<;>try simp only [yL] at hc))
 have hlen:=rns_len s
 refine GW_loop (fun k fr H1=>∃ (n:Nat) (l:List Nat) (p:Value),k=l.length∧fr.get 1=some (.int .i32 r)∧fr.get 5=some (.int .i64 n)∧fr.get 9=some (p)∧ItAt H1 p l∧fndR n l r=fndI (rns s) r∧n+l.length≤s.size) ?_ (rns s).length ?_
 case refine_2=>
  refine ⟨0,rns s,.pointer (some ⟨0,0,none⟩),rfl,?_⟩
  simp only [↓yG,Nat.reduceEqDiff,↓reduceIte,Int.natCast_add,Int.cast_ofNat_Int,Int.natCast_zero,true_and,and_true,Option.some.injEq,Value.int.injEq]
  exact ⟨ItAt.new (H:=⟨.nil,0,0⟩) (Nat.le_refl _),fndR_zero _ _,by omega⟩
 rintro k fr H1 ⟨n,l,p,rfl,f1,f5,f9,hI,hf,hn⟩ J hJ
 cases l with
 |nil=>
  have hx:=hI.nil
  repeat' (first|refine zz5 @g170.eq_1 @f1 @f5 @f9 @hx ?_|(refine zh (fun hc=>?_) (fun hc=>?_)<;>try simp only [yL] at hc))
  have he:fndI (rns s) r=-1:=hf.symm
  rw [he] at hPost
  exact hPost _
 |cons x l=>
  obtain ⟨pos,o,hx,hI',hx'⟩:=hI.cons
  simp only [List.length_cons] at hn
  repeat' (first|refine zz5 @g170.eq_1 @f1 @f5 @f9 @hx ?_|(refine zh (fun hc=>?_) (fun hc=>?_)<;>try simp only [yL] at hc))
  case cons.refine_1=>
   rw [fndR_yes n hc] at hf
   rw [← hf] at hPost
   exact hPost _
  case cons.refine_2=>
   refine hJ _ _ ⟨l.length,by simp,n+1,l,p,rfl,?_⟩
   simp only [↓yG,Nat.reduceEqDiff,↓reduceIte,Int.natCast_add,Int.cast_ofNat_Int,Int.natCast_zero,true_and,and_true,Option.some.injEq,Value.int.injEq,f1,f9]
   exact ⟨hI',by rw [← fndR_no n hc];exact hf,by omega⟩
theorem allS_le:allS.size≤4611686018427387904:=by decide
theorem idx_ok {r:Int} (hr:-2147483648≤r∧r≤2147483647) (H:GHeap):gev G 123 [.int .i32 r] H=some (.int .i64 (idxN r),H):=by
 refine gev_GWP (f:=123) rfl rfl rfl (fun Post hPost=>?_) H
 simp only [frameOf,Nat.reduceAdd]
 unfold idxN at hPost
 repeat' (first|refine zz1 @g123.eq_1 ?_|(refine zh (fun hc=>?_) (fun hc=>?_)<;>try simp only [yL] at hc))
 case refine_1.refine_1=>rw [if_pos ⟨by omega,by omega⟩] at hPost;exact hPost _
 all_goals
  rw [if_neg (by omega),← rns_all] at hPost
  refine zc0 (one_of (place_ok (s:=allS) allS_le _)) fun r1 H1 hq=>?_
  obtain ⟨rfl,rfl⟩:=hq
  repeat' (first|refine zz1 @g123.eq_1 ?_|(refine zh (fun hc=>?_) (fun hc=>?_)<;>try simp only [yL] at hc))
  exact hPost _
set_option maxRecDepth 100000
theorem rep_range:(REP.all fun x=>decide (32≤x∧x≤9834))=true:=by kernel_rfl
set_option maxRecDepth 4000
theorem idx_range (r:Int):idxN r < 0∨(32≤r∧r≤9834):=by
 by_cases h:idxN r < 0
 ·exact .inl h
 ·obtain ⟨x,hx,rfl⟩:=idx_mem h
  have:=List.all_eq_true.1 rep_range x hx
  simp only [decide_eq_true_eq] at this
  right;omega
theorem OS.made' {s u n:Nat} {H0 H:GHeap} {cs:List Value} (hs:Same H0 H) (h:cs.length=n * s):OS s u H0 (H.add (some (.cells cs u true))) (.slice (some ⟨H.len,0,none⟩) n (n+1)) n cs:=
 ⟨hs.add _,⟨h,.inr ⟨H.len,n+1,rfl,.inr rfl,mine_add_eq rfl hs.wf.1⟩⟩,.inr hs.len⟩
theorem drop_bang {l:List Nat} {n:Nat} (h:n < l.length):l.drop n=l[n]! :: l.drop (n+1):=by rw [List.drop_eq_getElem_cons h,getElem!_pos l n h]
end Go.Gh
end
section
namespace Go.Gh
set_option linter.unusedSimpArgs false
set_option linter.unusedVariables false
set_option maxHeartbeats 4000000
open Go.RowKit
set_option maxRecDepth 4000
theorem ItAt.ne {H:GHeap} {v:Value} {l:List Nat} {a:Nat} {c:List Value × Nat} (h:ItAt H v l) (hm:H.mine a=some c):itId v≠a:=by
 obtain ⟨i,s,pos,rfl,h1,h2,h3⟩:=h.ex
 rintro rfl
 have h4:H.obj i=_:=(mine_obj hm).2
 rw [h4] at h2
 cases h2
theorem OS.ids {s u n:Nat} {H0 H:GHeap} {v:Value} {xs:List Value} (h:OS s u H0 H v n xs) {a:Nat} (ha:a ∈ idOf v):H0.len≤a∧a < H.len∧H.mine a=some (xs,u):=by
 rcases h.own.at_ with ⟨e,_⟩|⟨i,gc,e,_,hm⟩
 ·rw [e] at ha;simp [idOf] at ha
 ·have hlt:=mine_lt h.same.wf hm
  rw [e] at ha
  simp only [idOf,List.mem_singleton] at ha
  subst ha
  refine ⟨?_,hlt,hm⟩
  rcases h.young with e2|e2
  ·rw [e] at e2;cases e2
  ·rw [e] at e2;exact e2
theorem OS.appN {s u n m:Nat} {H0 H:GHeap} {v x:Value} {xs news:List Value} (h:OS s u H0 H v n xs) (hu:u≠0) (hs:s≠0) (hx:GArg1 H s x m news) {b:Nat} (hb:(n+m) * b≤140737488355328) (hk:n+m < 140737488355328):
 ∃ v' H',gapp s b u H v x=some (v',H')∧OS s u H0 H' v' (n+m) (xs ++ news)∧But (fun j=>j ∈ idOf v) H H':=by
 have hw:=h.same.wf
 have hg:=gcells_arg hx
 have hlen:=hx.rd.1
 have hct:gcount x=some m:=by obtain ⟨a,gc,rfl,_⟩:=hx.sl;rfl
 by_cases hm:m=0
 ·subst hm
  have hnil:news=[]:=List.eq_nil_of_length_eq_zero (by rw [hlen,Nat.zero_mul])
  subst hnil
  refine ⟨v,H,?_,by simpa using h,But.refl hw⟩
  have:∃ av gc,v=.slice av n gc:=by
   rcases h.own.at_ with ⟨e,e2⟩|⟨i,gc,e,_⟩
   ·exact ⟨none,0,by rw [e,e2]⟩
   ·exact ⟨_,_,e⟩
  obtain ⟨av,gc,rfl⟩:=this
  simp only [gapp,hct,Option.bind_some,hg]
  rfl
 obtain ⟨v',H',k1,k2,k3,k4,k5,k6,k7⟩:=gapp_own (bytes:=b) (m:=m) (x:=x) (news:=news) hw h.own hu hs hct hg hlen (by omega) hb (by omega)
 have key:∀ j,j < H.len→¬ j ∈ idOf v→H'.obj j=H.obj j:=fun j hj hne=>by
  refine k7 j hj ?_
  rcases h.own.at_ with ⟨e,_⟩|⟨i,gc,e,_⟩
  ·exact .inr e
  ·refine .inl fun e2=>hne ?_
   rw [e2,e];simp [idOf,blk]
 refine ⟨v',H',k1,⟨?_,k2,.inr (by rw [k6];exact h.same.len)⟩,⟨k4,by omega,key,k3⟩⟩
 refine h.same.of_obj k3 k4 (by omega) fun j hj=>?_
 refine key j (Nat.lt_of_lt_of_le hj h.same.len) fun hv=>?_
 have:=(h.ids hv).1
 omega
theorem OS.arg {n:Nat} {H0 H:GHeap} {v:Value} {xs:List Value} (h:OS 1 257 H0 H v n xs):GArg1 H 1 v n xs:=OwnG.arg h.same.wf h.own (.inr rfl)
theorem OS.appB {n:Nat} {H0 H:GHeap} {v:Value} {xs:List Value} (h:OS 1 257 H0 H v n xs) (l:List UInt8) (hb:n+l.length < 140737488355328):
 ∃ v' H',gapp 1 1 257 (H.add (some (.cells (u8s l) 257 true))) v (.slice (some ⟨H.len,0,none⟩) l.length (l.length+1))=some (v',H')∧OS 1 257 H0 H' v' (n+l.length) (xs ++ u8s l)∧But (fun j=>j ∈ idOf v) H H':=by
 have hw:=h.same.wf
 obtain ⟨v',H',e,h1,h2⟩:=(h.later ((Same.refl hw).add (.cells (u8s l) 257 true))).appN (by decide) (by decide) (OB.made (l:=l) (Same.refl hw) rfl (l.length+1) (.inr rfl)).rb (b:=1) (by omega) (by omega)
 exact ⟨v',H',e,h1,(But.of ((Same.refl hw).add _)).trans h2⟩
def toL (b:ByteArray):List UInt8:=b.data.toList
def encL (x:Nat):List UInt8:=toL (Utf8.encode (x:Int))
def enc2 (x:Nat):List UInt8:=[192 ||| UInt8.ofNat (x / 64),128 ||| (UInt8.ofNat x &&& 63)]
def enc3 (x:Nat):List UInt8:=[224 ||| UInt8.ofNat (x / 4096),128 ||| (UInt8.ofNat (x / 64) &&& 63),128 ||| (UInt8.ofNat x &&& 63)]
set_option maxRecDepth 100000 in
theorem enc_table:(REP.all fun x=>encL x == (if x≤127 then [UInt8.ofNat x] else if x≤2047 then enc2 x else enc3 x))=true:=by kernel_rfl
theorem encL_eq {x:Nat} (hx:x ∈ REP):encL x=if x≤127 then [UInt8.ofNat x] else if x≤2047 then enc2 x else enc3 x:=by
 have:=List.all_eq_true.1 enc_table x hx
 simpa using this
theorem encL_len {x:Nat} (hx:x ∈ REP):(encL x).length≤3∧1≤(encL x).length:=by
 rw [encL_eq hx]
 split
 ·simp
 ·split<;>simp [enc2,enc3]
theorem gb_or8 {e:Option EqK} {a b:UInt8}:gbin .or e (.int .u8 (a.toNat:Int)) (.int .u8 (b.toNat:Int))=some (.int .u8 ((a ||| b).toNat:Int)):=by
 have:∀ a b:UInt8,IntKind.u8.wrap ((BitVec.ofInt 8 (a.toNat:Int) ||| BitVec.ofInt 8 (b.toNat:Int)).toNat:Int)=((a ||| b).toNat:Int):=by
  intro a b
  rw [bv_nat,bv_nat,BitVec.toNat_or,BitVec.toNat_ofNat,BitVec.toNat_ofNat,Nat.mod_eq_of_lt a.toNat_lt,Nat.mod_eq_of_lt b.toNat_lt,UInt8.toNat_or]
  have:a.toNat ||| b.toNat < 256:=Nat.or_lt_two_pow (n:=8) a.toNat_lt b.toNat_lt
  exact wr_u8 (by omega)
 simp only [gbin,gint,if_true]
 exact congrArg (fun n=>some (Value.int .u8 n)) (this a b)
theorem gb_and8 {e:Option EqK} {a b:UInt8}:gbin .and e (.int .u8 (a.toNat:Int)) (.int .u8 (b.toNat:Int))=some (.int .u8 ((a &&& b).toNat:Int)):=by
 have:∀ a b:UInt8,IntKind.u8.wrap ((BitVec.ofInt 8 (a.toNat:Int) &&& BitVec.ofInt 8 (b.toNat:Int)).toNat:Int)=((a &&& b).toNat:Int):=by
  intro a b
  rw [bv_nat,bv_nat,BitVec.toNat_and,BitVec.toNat_ofNat,BitVec.toNat_ofNat,Nat.mod_eq_of_lt a.toNat_lt,Nat.mod_eq_of_lt b.toNat_lt,UInt8.toNat_and]
  have:a.toNat &&& b.toNat < 256:=Nat.lt_of_le_of_lt Nat.and_le_left a.toNat_lt
  exact wr_u8 (by omega)
 simp only [gbin,gint,if_true]
 exact congrArg (fun n=>some (Value.int .u8 n)) (this a b)
theorem or192 {e:Option EqK} {b:UInt8}:gbin .or e (.int .u8 192) (.int .u8 (b.toNat:Int))=some (.int .u8 ((192 ||| b).toNat:Int)):=gb_or8 (a:=192)
theorem or128 {e:Option EqK} {b:UInt8}:gbin .or e (.int .u8 128) (.int .u8 (b.toNat:Int))=some (.int .u8 ((128 ||| b).toNat:Int)):=gb_or8 (a:=128)
theorem or224 {e:Option EqK} {b:UInt8}:gbin .or e (.int .u8 224) (.int .u8 (b.toNat:Int))=some (.int .u8 ((224 ||| b).toNat:Int)):=gb_or8 (a:=224)
theorem and63 {e:Option EqK} {b:UInt8}:gbin .and e (.int .u8 (b.toNat:Int)) (.int .u8 63)=some (.int .u8 ((b &&& 63).toNat:Int)):=gb_and8 (b:=63)
theorem u8n {b:Nat} (h:b < 256):(b:Int)=((UInt8.ofNat b).toNat:Int):=by rw [UInt8.toNat_ofNat',Nat.mod_eq_of_lt h]
theorem or192n {e:Option EqK} {b:Nat} (h:b < 256):gbin .or e (.int .u8 192) (.int .u8 (b:Int))=some (.int .u8 ((192 ||| UInt8.ofNat b).toNat:Int)):=by rw [u8n h];exact or192
theorem or224n {e:Option EqK} {b:Nat} (h:b < 256):gbin .or e (.int .u8 224) (.int .u8 (b:Int))=some (.int .u8 ((224 ||| UInt8.ofNat b).toNat:Int)):=by rw [u8n h];exact or224
theorem and63n {e:Option EqK} {b:Nat} (h:b < 256):gbin .and e (.int .u8 (b:Int)) (.int .u8 63)=some (.int .u8 ((UInt8.ofNat b &&& 63).toNat:Int)):=by rw [u8n h];exact and63
theorem sh6 {e:Option EqK} {k':IntKind} {s:Nat}:gbin .shr e (.int .i32 (s:Int)) (.int k' 6)=some (.int .i32 ((s / 64:Nat):Int)):=gb_shr (s:=6) (by decide)
theorem sh12 {e:Option EqK} {k':IntKind} {s:Nat}:gbin .shr e (.int .i32 (s:Int)) (.int k' 12)=some (.int .i32 ((s / 4096:Nat):Int)):=gb_shr (s:=12) (by decide)
theorem fillb1 {a:Int}:fillL (ints .u8 (List.replicate 1 0)) [(0,1,.int .u8 a)]=some [.int .u8 a]:=rfl
theorem fillb2 {a b:Int}:fillL (ints .u8 (List.replicate 2 0)) [(0,1,.int .u8 a),(1,1,.int .u8 b)]=some [.int .u8 a,.int .u8 b]:=rfl
theorem fillb3 {a b c:Int}:fillL (ints .u8 (List.replicate 3 0)) [(0,1,.int .u8 a),(1,1,.int .u8 b),(2,1,.int .u8 c)]=some [.int .u8 a,.int .u8 b,.int .u8 c]:=rfl
theorem rep_le {x:Nat} (hx:x ∈ REP):32≤x∧x≤9834:=by
 have:=List.all_eq_true.1 rep_range x hx
 simpa using this
def encs' (l:List Int):List UInt8:=l.flatMap fun r=>encL r.toNat
theorem gcv_str {H:GHeap} {k:IntKind} {n:Int}:gconv .strOfInt H (.int k n)=some (.string (Utf8.encode n),none):=rfl
theorem strB_app (a:List UInt8) (e:ByteArray):strB a ++ e=strB (a ++ toL e):=by
 apply ByteArray.ext
 rw [ByteArray.data_append]
 apply Array.ext'
 simp [strB,toL]
theorem size_list (e:ByteArray):e.size=(toL e).length:=rfl
theorem gb_addS {k:Option EqK} {a:List UInt8} {e:ByteArray} (h:a.length+(toL e).length≤9223372036854775807):gbin .add k (.string (strB a)) (.string e)=some (.string (strB (a ++ toL e))):=by
 simp only [gbin,gstr]
 rw [strB_size,size_list,if_pos h,strB_app]
end Go.Gh
end
section
namespace Go.Gh
set_option linter.unusedSimpArgs false
set_option linter.unusedVariables false
set_option maxHeartbeats 4000000
open Go.Lib
set_option maxRecDepth 100000
def charOk (x:Nat):List UInt8→Bool
 |[a]=>a.toNat == x && decide (x < 128)
 |[a,b]=>decide (128≤a.toNat) && a.toNat / 32 == 6 && b.toNat / 64 == 2 && a.toNat % 32 * 64+b.toNat % 64 == x && decide (128≤x)
 |[a,b,c]=>decide (128≤a.toNat) && !(a.toNat / 32 == 6) && a.toNat / 16 == 14 && b.toNat / 64 == 2 && c.toNat / 64 == 2 && a.toNat % 16 * 4096+b.toNat % 64 * 64+c.toNat % 64 == x && decide (2048≤x∧x < 55296)
 |_=>false
theorem char_table:(REP.all fun x=>charOk x (encL x))=true:=by kernel_rfl
theorem enc_table2:(REP.all fun x=>encodeRune (x:Int) == encL x)=true:=by kernel_rfl
theorem encR {x:Nat} (hx:x ∈ REP):encodeRune (x:Int)=encL x:=by
 have:=List.all_eq_true.1 enc_table2 x hx
 simpa using this
theorem dec_char {x:Nat} (hx:x ∈ REP) (t:List UInt8):decodeL (encL x ++ t)=(x,(encL x).length):=by
 have h:=List.all_eq_true.1 char_table x hx
 generalize encL x=e at h
 rw [decodeL_N]
 match e,h with
 |[a],h=>
  simp only [charOk,Bool.and_eq_true,beq_iff_eq,decide_eq_true_eq] at h
  simp only [List.cons_append,List.nil_append,List.getD_cons_zero,List.length_cons,List.length_nil,decodeN]
  rw [if_pos (by omega),h.1]
 |[a,b],h=>
  simp only [charOk,Bool.and_eq_true,beq_iff_eq,decide_eq_true_eq] at h
  obtain ⟨⟨⟨⟨h1,h2⟩,h3⟩,h4⟩,h5⟩:=h
  simp only [List.cons_append,List.nil_append,List.getD_cons_zero,List.getD_cons_succ,List.length_cons,List.length_nil,decodeN]
  rw [if_neg (by omega),if_pos ⟨h2,by omega,h3⟩,if_pos (by omega),h4]
 |[a,b,c],h=>
  simp only [charOk,Bool.and_eq_true,beq_iff_eq,decide_eq_true_eq,Bool.not_eq_true',beq_eq_false_iff_ne] at h
  obtain ⟨⟨⟨⟨⟨⟨h1,h2⟩,h3⟩,h4⟩,h5⟩,h6⟩,h7⟩:=h
  simp only [List.cons_append,List.nil_append,List.getD_cons_zero,List.getD_cons_succ,List.length_cons,List.length_nil,decodeN]
  rw [if_neg (by omega),if_neg (fun hh=>h2 hh.1),if_pos ⟨h3,⟨by omega,h4⟩,by omega,h5⟩,if_pos ⟨by omega,by omega⟩,h6]
def vldB (s:ByteArray):Bool:=(rns s).all fun x=>decide (0≤idxN x)
theorem idx_err:idxN ((65533:Nat):Int) < 0:=by decide+kernel
theorem mem_of_idx {x:Nat} (h:0≤idxN x):x ∈ REP:=by
 obtain ⟨y,hy,e⟩:=idx_mem (r:=(x:Int)) (by omega)
 have:y=x:=by omega
 rw [← this];exact hy
theorem idx_of_mem {x:Nat} (h:x ∈ REP):0≤idxN x:=by
 rcases idx_cases x with ⟨_,k⟩|⟨n,_,e,_⟩
 ·exact absurd rfl (k x h)
 ·omega
theorem valid_from (s:ByteArray):∀ (k pos:Nat),s.size - pos≤k→(∀ x ∈ rnsAt s pos,x ∈ REP)→validD (s.data.toList.drop pos)=true∧(rnsAt s pos).flatMap encL=s.data.toList.drop pos:=by
 intro k
 induction k with
 |zero=>
  intro pos h _
  have:s.data.toList.length=s.size:=rfl
  rw [List.drop_eq_nil_of_le (by omega),rnsAt_no (by omega)]
  exact ⟨validD_nil,rfl⟩
 |succ k ih=>
  intro pos h hm
  have hsz:s.data.toList.length=s.size:=rfl
  by_cases hp:pos < s.size
  ·have hw:=width_pos s pos
   rw [rnsAt_yes hp] at hm ⊢
   have hx:=hm (Utf8.decode s pos).1 (List.mem_cons_self ..)
   have hne:s.data.toList.drop pos≠[]:=fun e=>by
    have:=congrArg List.length e
    simp only [List.length_drop,List.length_nil] at this
    omega
   have hd:=decodeL_drop s pos
   have hbad:¬ ((decodeL (s.data.toList.drop pos)).1=65533∧(decodeL (s.data.toList.drop pos)).2=1):=by
    rintro ⟨e,_⟩
    rw [hd] at e
    rw [e] at hx
    have:=idx_of_mem hx
    have:=idx_err
    omega
   obtain ⟨k1,k2⟩:=ih (pos+(Utf8.decode s pos).2) (by omega) (fun x hx=>hm x (by simp [hx]))
   have hen:=encode_decode _ hne hbad
   rw [hd,encR hx] at hen
   refine ⟨?_,?_⟩
   ·rw [validD_step _ hne,if_neg hbad,hd,List.drop_drop]
    exact k1
   ·rw [List.flatMap_cons,k2,hen,← List.drop_drop,List.take_append_drop]
  ·rw [List.drop_eq_nil_of_le (by omega),rnsAt_no hp]
   exact ⟨validD_nil,rfl⟩
theorem vldB_mem {s:ByteArray} (h:vldB s=true):∀ x ∈ rns s,x ∈ REP:=fun x hx=>by
 have:=List.all_eq_true.1 h x hx
 exact mem_of_idx (by simpa using this)
theorem vldB_of {s:ByteArray} (h:∀ x ∈ rns s,x ∈ REP):vldB s=true:=List.all_eq_true.2 fun x hx=>decide_eq_true (idx_of_mem (h x hx))
theorem vld_valid {s:ByteArray} (h:vldB s=true):validD s.data.toList=true:=(valid_from s _ 0 (Nat.le_refl _) (vldB_mem h)).1
theorem enc_rns {s:ByteArray} (h:vldB s=true):(rns s).flatMap encL=s.data.toList:=(valid_from s _ 0 (Nat.le_refl _) (vldB_mem h)).2
theorem rns_from (b:List UInt8):∀ (l:List Nat) (pre:List UInt8),(∀ x ∈ l,x ∈ REP)→b=pre ++ l.flatMap encL→rnsAt (strB b) pre.length=l
 |[],pre,_,hb=>by
  refine rnsAt_no ?_
  rw [strB_size,hb];simp
 |x :: l,pre,h,hb=>by
  have hx:=h x (by simp)
  have hlen:=encL_len hx
  have hd:Utf8.decode (strB b) pre.length=(x,(encL x).length):=by
   rw [← decodeL_drop,strB_data,hb,List.drop_left,List.flatMap_cons]
   exact dec_char hx _
  rw [rnsAt_yes (by rw [strB_size,hb];simp;omega),hd]
  have:=rns_from b l (pre ++ encL x) (fun y hy=>h y (by simp [hy])) (by rw [hb];simp)
  rw [List.length_append] at this
  rw [this]
theorem rns_enc {l:List Nat} (h:∀ x ∈ l,x ∈ REP):rns (strB (l.flatMap encL))=l:=rns_from _ l [] h rfl
def charL (s:ByteArray):List Nat:=if vldB s=true then rns s else []
def asI (l:List Nat):List Int:=l.map fun (x:Nat)=>(x:Int)
end Go.Gh
end
section
namespace Go.Gh
set_option linter.unusedSimpArgs false
set_option linter.unusedVariables false
set_option maxHeartbeats 4000000
open Go.RowKit
set_option maxRecDepth 4000
section
variable {s:ByteArray} (hs:s.size≤140737488355328)
include hs
theorem lvalid_ok (H:GHeap):gev G 122 [.string s] H=some (.bool (Go.Lib.validD s.data.toList),H):=
 gev_lib (f:=122) rfl rfl (by simp only [runValid];rw [if_pos (by omega)]) rfl
theorem valid_ok (H:GHeap):gev G 66 [.string s] H=some (.bool (vldB s),H):=by
 refine gev_GWP (f:=66) rfl rfl rfl (fun Post hPost=>?_) H
 simp only [frameOf,Nat.reduceAdd]
 repeat' (first|refine zz1 @g66.eq_1 ?_|(refine zh (fun hc=>?_) (fun hc=>?_)<;>try simp only [yL] at hc))
 refine zc0 (one_of (lvalid_ok (s:=s) (by omega) _)) fun r1 H1 hq=>?_
 obtain ⟨rfl,rfl⟩:=hq
 repeat' (first|refine zz1 @g66.eq_1 ?_|(refine zh (fun hc=>?_) (fun hc=>?_)<;>try simp only [yL] at hc))
 case refine_1=>
  have he:vldB s=false:=by
   cases h:vldB s with
   |false=>rfl
   |true=>rw [vld_valid h] at hc;cases hc
  rw [he] at hPost
  exact hPost _
 case refine_2=>
  refine GW_loop (fun k fr H1=>∃ (l:List Nat) (p:Value),k=l.length∧fr.get 9=some (p)∧ItAt H1 p l∧vldB s=l.all fun x=>decide (0≤idxN x)) ?_ (rns s).length ?_
  case refine_2=>
   refine ⟨rns s,.pointer (some ⟨0,0,none⟩),rfl,?_⟩
   simp only [↓yG,Nat.reduceEqDiff,↓reduceIte,Int.natCast_add,Int.cast_ofNat_Int,Int.natCast_zero,true_and,and_true,Option.some.injEq,Value.int.injEq]
   exact ⟨ItAt.new (H:=⟨.nil,0,0⟩) (Nat.le_refl _),rfl⟩
  rintro k fr H1 ⟨l,p,rfl,f9,hI,hf⟩ J hJ
  cases l with
  |nil=>
   have hx:=hI.nil
   repeat' (first|refine zz3 @g66.eq_1 @f9 @hx ?_|(refine zh (fun hc=>?_) (fun hc=>?_)<;>try simp only [yL] at hc))
   have he:vldB s=true:=hf
   rw [he] at hPost
   exact hPost _
  |cons x l=>
   obtain ⟨pos,o,hx,hI',hx'⟩:=hI.cons
   repeat' (first|refine zz3 @g66.eq_1 @f9 @hx ?_|(refine zh (fun hc=>?_) (fun hc=>?_)<;>try simp only [yL] at hc))
   refine zc1 @f9 (one_of (idx_ok (r:=(x:Int)) (by omega) _)) fun r1 H2 hq=>?_
   obtain ⟨rfl,rfl⟩:=hq
   repeat' (first|refine zz2 @g66.eq_1 @f9 ?_|(refine zh (fun hc=>?_) (fun hc=>?_)<;>try simp only [yL] at hc))
   case cons.refine_1=>
    have he:vldB s=false:=by
     rw [hf,List.all_cons,decide_eq_false (by omega)];rfl
    rw [he] at hPost
    exact hPost _
   case cons.refine_2=>
    refine hJ _ _ ⟨l.length,by simp,l,p,rfl,?_⟩
    simp only [↓yG,Nat.reduceEqDiff,↓reduceIte,Int.natCast_add,Int.cast_ofNat_Int,Int.natCast_zero,true_and,and_true,Option.some.injEq,Value.int.injEq,f9]
    exact ⟨hI',by rw [hf,List.all_cons,decide_eq_true (by omega),Bool.true_and]⟩
end
section
variable {s:ByteArray} (hs:s.size≤4398046511104)
include hs
end
theorem count_ok {s:ByteArray} (hs:s.size≤4611686018427387904) (H:GHeap):gev G 195 [.string s] H=some (.int .i64 (rns s).length,H):=by
 refine gev_GWP (f:=195) rfl rfl rfl (fun Post hPost=>?_) H
 have hlen:=rns_len s
 simp only [frameOf,Nat.reduceAdd]
 repeat' (first|refine zz1 @g195.eq_1 ?_|(refine zh (fun hc=>?_) (fun hc=>?_)<;>try simp only [yL] at hc))
 refine GW_loop (fun k fr H1=>∃ (rest:List Nat) (p:Value) (j:Nat),k=rest.length∧fr.get 2=some (.int .i64 j)∧fr.get 4=some (p)∧ItAt H1 p rest∧j+rest.length=(rns s).length∧H1.wf) ?_ (rns s).length ?_
 case refine_2=>
  refine ⟨rns s,.pointer (some ⟨0,0,none⟩),0,rfl,?_⟩
  simp only [↓yG,Nat.reduceEqDiff,↓reduceIte,Int.natCast_add,Int.cast_ofNat_Int,Int.natCast_zero,true_and,and_true,Option.some.injEq,Value.int.injEq]
  exact ⟨ItAt.new (H:=⟨.nil,0,0⟩) (Nat.le_refl _),by omega,((Same.refl root_wf).add _).wf⟩
 rintro k fr H1 ⟨rest,p,j,rfl,f2,f4,hI,hj,hw1⟩ J hJ
 cases rest with
 |nil=>
  have hx:=hI.nil
  repeat' (first|refine zz4 @g195.eq_1 @f2 @f4 @hx ?_|(refine zh (fun hc=>?_) (fun hc=>?_)<;>try simp only [yL] at hc))
  simp only [List.length_nil,Nat.add_zero] at hj
  subst hj
  exact hPost _
 |cons x rest=>
  obtain ⟨pos,o,hx,hI',hx'⟩:=hI.cons
  simp only [List.length_cons] at hj
  repeat' (first|refine zz4 @g195.eq_1 @f2 @f4 @hx ?_|(refine zh (fun hc=>?_) (fun hc=>?_)<;>try simp only [yL] at hc))
  refine hJ _ _ ⟨rest.length,by simp,rest,p,j+1,rfl,?_⟩
  simp only [↓yG,Nat.reduceEqDiff,↓reduceIte,Int.natCast_add,Int.cast_ofNat_Int,Int.natCast_zero,true_and,and_true,Option.some.injEq,Value.int.injEq,f4]
  exact ⟨hI',by omega,(But.refl (S:=fun z=>z=itId p) hw1 |>.put (i:=itId p) rfl (hI.lt hw1) o).wf⟩
section
variable {s:ByteArray} (hs:s.size≤4398046511104)
def lenN (s:ByteArray):Int:=if vldB s=true then ((rns s).length:Nat) else -1
omit hs in
theorem lenN_eq:lenN s=if vldB s=true then (((rns s).length:Nat):Int) else -1:=rfl
include hs
theorem len_ok (H:GHeap):gev G 171 [.string s] H=some (.int .i64 (lenN s),H):=by
 refine gev_GWP (f:=171) rfl rfl rfl (fun Post hPost=>?_) H
 rw [lenN_eq] at hPost
 simp only [frameOf,Nat.reduceAdd]
 repeat' (first|refine zz1 @g171.eq_1 ?_|(refine zh (fun hc=>?_) (fun hc=>?_)<;>try simp only [yL] at hc))
 refine zc0 (one_of (valid_ok (s:=s) (by omega) _)) fun r1 H1 hq=>?_
 obtain ⟨rfl,rfl⟩:=hq
 repeat' (first|refine zz1 @g171.eq_1 ?_|(refine zh (fun hc=>?_) (fun hc=>?_)<;>try simp only [yL] at hc))
 case refine_1=>rw [if_neg (by rw [hc];decide)] at hPost;exact hPost _
 case refine_2=>
  refine zc0 (one_of (count_ok (s:=s) (by omega) _)) fun r1 H1 hq=>?_
  obtain ⟨rfl,rfl⟩:=hq
  repeat' (first|refine zz1 @g171.eq_1 ?_|(refine zh (fun hc=>?_) (fun hc=>?_)<;>try simp only [yL] at hc))
  rw [if_pos hc] at hPost;exact hPost _
omit hs
def cutL (l:List Nat) (i j:Int):List Nat:=(l.drop (min (max i 0) l.length).toNat).take ((min (max j (min (max i 0) l.length)) l.length).toNat - (min (max i 0) l.length).toNat)
omit hs in
omit hs in
omit hs in
def sliceB (s:ByteArray) (i j:Int):List UInt8:=(cutL (charL s) i j).flatMap encL
include hs
end
end Go.Gh
end
section
namespace Go.Gh
set_option linter.unusedSimpArgs false
set_option linter.unusedVariables false
set_option maxHeartbeats 4000000
open Go.RowKit
set_option maxRecDepth 4000
structure Bld (H0 H:GHeap) (b:Nat) (l:List UInt8):Prop where
 ex:∃ p s,H.mine b=some ([p,s],258)∧(p=.pointer none∨p=self b)∧OS 1 257 H0 H s l.length (u8s l)∧(l=[]→s=.slice none 0 0)
 young:H0.len≤b
theorem Bld.new {H:GHeap} (hw:H.wf):Bld H (H.add (some (.cells [.pointer none,.slice none 0 0] 258 true))) H.len []:=
 ⟨⟨_,_,mine_add_eq rfl hw.1,.inl rfl,OS.nil ((Same.refl hw).add _),fun _=>rfl⟩,Nat.le_refl _⟩
theorem Bld.same {H0 H:GHeap} {b:Nat} {l:List UInt8} (h:Bld H0 H b l):Same H0 H:=by
 obtain ⟨_,_,_,_,h,_⟩:=h.ex;exact h.same
theorem Bld.later {H0 H H':GHeap} {b:Nat} {l:List UInt8} (h:Bld H0 H b l) (hs:Same H H'):Bld H0 H' b l:=by
 obtain ⟨p,s,h1,h2,h3,h4⟩:=h.ex
 exact ⟨⟨p,s,by rw [hs.mine (mine_lt h3.same.wf h1)];exact h1,h2,h3.later hs,h4⟩,h.young⟩
theorem OS.flat {s u n:Nat} {H0 H:GHeap} {v:Value} {xs:List Value} (h:OS s u H0 H v n xs):flatV v=true:=by
 rcases h.own.at_ with ⟨e,_⟩|⟨i,gc,e,_,hm⟩<;>rw [e]<;>exact flatV_sl
theorem Bld.check {H0 H:GHeap} {b:Nat} {l:List UInt8} (h:Bld H0 H b l):
 ∃ r H',gev G 192 [self b] H=some (r,H')∧(r=.tuple #[]∧∃ s,H'.mine b=some ([self b,s],258)∧OS 1 257 H0 H' s l.length (u8s l)∧(l=[]→s=.slice none 0 0)):=by
 obtain ⟨p,s,hm,hp,hO,hne⟩:=h.ex
 have hlt:=mine_lt hO.same.wf hm
 refine ⟨.tuple #[],H.put b (.cells [self b,s] 258 true),gev_ext (run:=runCC) rfl ?_,rfl,s,mine_put_same (mine_obj hm).1,?_,hne⟩
 ·rcases hp with rfl|rfl
  ·simp only [self,runCC,hm]
  ·simp only [self] at hm ⊢
   simp only [runCC,hm,if_true,self]
 ·refine hO.but (S:=fun j=>j=b) ((But.refl (S:=fun j=>j=b) hO.same.wf).put rfl hlt _) (fun k hk e=>?_) fun a ha e=>?_
  ·have:=h.young;omega
  ·have:=(hO.ids ha).2.2
   rw [e,hm] at this
   simp at this
theorem string_ok {H0 H:GHeap} {b:Nat} {l:List UInt8} (h:Bld H0 H b l) (hn:l.length≤140737488355328):
 ∃ r H',gev G 162 [self b] H=some (r,H')∧(r=.string (strB l)∧Same H0 H'):=by
 obtain ⟨p,s,hm,hp,hO,hne⟩:=h.ex
 have h0:=hO.same
 by_cases hl:l=[]
 ·subst hl
  refine ⟨.string .empty,H,gev_ext (run:=runStr) rfl ?_,rfl,h0⟩
  rw [hne rfl] at hm
  simp only [self,runStr,hm]
 ·have hpos:0 < l.length:=List.length_pos_iff.2 hl
  rcases hO.own.at_ with ⟨e,e2⟩|⟨i,gc,e,hg,hmi⟩
  ·omega
  ·obtain ⟨n,hnl⟩:∃ n,l.length=n+1:=⟨l.length - 1,by omega⟩
   have hid:i ∈ idOf s:=by rw [e];simp [idOf]
   have hy:=hO.ids hid
   refine ⟨.string (strB l),H.put i (.cells (u8s l) 257 false),gev_ext (run:=runStr) rfl ?_,rfl,h0.put hy.1 hy.2.1 _⟩
   rw [e,hnl] at hm
   have ht:(u8s l).take (n+1)=u8s l:=List.take_of_length_le (by rw [u8s_length];omega)
   simp only [self,runStr,hm,hmi]
   rw [if_pos (by rw [u8s_length];omega),ht,rdB_u8s]
   rfl
theorem GArg1.suf {H:GHeap} {v:Value} {n:Nat} {xs:List Value} (h:GArg1 H 1 v n xs) {k:IntKind} {a:Nat} (h2:a≤n):
 ∃ v',gslice (.sl 1) H v (some (.int k a)) none none=some v'∧GArg1 H 1 v' (n - a) (xs.drop a):=by
 obtain ⟨v',e1,e2,_⟩:=h.cut (k:=k) (a:=a) (b:=n) (by omega) (by omega) (Int.le_refl _)
 refine ⟨v',?_,?_⟩
 ·rw [gslice_hi h (k:=k)];exact e1
 ·have hl:=h.rd.1
  simp only [Int.toNat_natCast,Nat.mul_one] at e2 hl
  rwa [List.take_of_length_le (by rw [List.length_drop];omega)] at e2
theorem OS.appX {s u n m:Nat} {H0 H:GHeap} {v x:Value} {xs news:List Value} (h:OS s u H0 H v n xs) (hu:u≠0) (hs:s≠0) (hct:gcount x=some m) (hg:gcells s m H x=some news) (hlen:news.length=m * s) {b:Nat} (hb:(n+m) * b≤140737488355328) (hk:n+m < 140737488355329):
 ∃ v' H',gapp s b u H v x=some (v',H')∧OS s u H0 H' v' (n+m) (xs ++ news)∧But (fun j=>j ∈ idOf v) H H'∧(m=0→v'=v∧H'=H):=by
 have hw:=h.same.wf
 by_cases hm:m=0
 ·subst hm
  have hnil:news=[]:=List.eq_nil_of_length_eq_zero (by rw [hlen,Nat.zero_mul])
  subst hnil
  refine ⟨v,H,?_,by simpa using h,But.refl hw,fun _=>⟨rfl,rfl⟩⟩
  have:∃ av gc,v=.slice av n gc:=by
   rcases h.own.at_ with ⟨e,e2⟩|⟨i,gc,e,_⟩
   ·exact ⟨none,0,by rw [e,e2]⟩
   ·exact ⟨_,_,e⟩
  obtain ⟨av,gc,rfl⟩:=this
  simp only [gapp,hct,Option.bind_some,hg]
  rfl
 obtain ⟨v',H',k1,k2,k3,k4,k5,k6,k7⟩:=gapp_own (bytes:=b) (m:=m) (x:=x) (news:=news) hw h.own hu hs hct hg hlen (by omega) hb (by omega)
 have key:∀ j,j < H.len→¬ j ∈ idOf v→H'.obj j=H.obj j:=fun j hj hne=>by
  refine k7 j hj ?_
  rcases h.own.at_ with ⟨e,_⟩|⟨i,gc,e,_⟩
  ·exact .inr e
  ·refine .inl fun e2=>hne ?_
   rw [e2,e];simp [idOf,blk]
 refine ⟨v',H',k1,⟨?_,k2,.inr (by rw [k6];exact h.same.len)⟩,⟨k4,by omega,key,k3⟩,fun h=>absurd h hm⟩
 refine h.same.of_obj k3 k4 (by omega) fun j hj=>?_
 refine key j (Nat.lt_of_lt_of_le hj h.same.len) fun hv=>?_
 have:=(h.ids hv).1
 omega
theorem OS.appStr {n:Nat} {H0 H:GHeap} {v:Value} {xs:List Value} (h:OS 1 257 H0 H v n xs) (t:List UInt8) (hb:n+t.length≤140737488355328):
 ∃ v' H',gapp 1 1 257 H v (.string (strB t))=some (v',H')∧OS 1 257 H0 H' v' (n+t.length) (xs ++ u8s t)∧But (fun j=>j ∈ idOf v) H H'∧(t.length=0→v'=v∧H'=H):=by
 refine h.appX (by decide) (by decide) (m:=t.length) ?_ ?_ (by rw [u8s_length];omega) (b:=1) (by omega) (by omega)
 ·simp only [gcount,strB_size]
 ·simp only [gcells,strB_data,List.take_length];rfl
theorem writeS_ok {H0 H:GHeap} {b:Nat} {l:List UInt8} (h:Bld H0 H b l) (t:List UInt8) (hn:l.length+t.length≤140737488355328):
 ∃ r H',gev G 161 [self b,.string (strB t)] H=some (r,H')∧Bld H0 H' b (l ++ t):=by
 refine gev_GW (f:=161) rfl fun Post hPost=>?_
 simp only [frameOf,Nat.reduceAdd]
 repeat' (first|refine zz1 @g161.eq_1 ?_|(refine zh (fun hc=>?_) (fun hc=>?_)<;>try simp only [yL] at hc))
 refine zc0 (h.check) fun r1 H1 hq=>?_
 obtain ⟨rfl,s,hm,hO,hne⟩:=hq
 have hr1:H1.rd b 1=some s:=mine_rd hm
 have hs:self b=.pointer (some ⟨b,0,none⟩):=rfl
 repeat' (first|refine zz3 @g161.eq_1 @hs @hr1 ?_|(refine zh (fun hc=>?_) (fun hc=>?_)<;>try simp only [yL] at hc))
 refine Gw_s fun K' hK'=>?_
 simp (disch:=first|exact zd|fail) only [↓yS,yT,↓reduceIte,Nat.reduceEqDiff,Nat.reduceAdd,Nat.reduceMul,reduceCtorEq,Int.reduceToNat,hs,hr1]
 obtain ⟨r2,H2,e,hO2,hB,h0⟩:=hO.appStr t hn
 refine G1_eq e (hK' _ _ ?_)
 clear hK' K' e
 have hlt:=mine_lt hO.same.wf hm
 have hnot:¬ b ∈ idOf s:=fun ha=>by
  have:=(hO.ids ha).2.2
  rw [hm] at this
  simp at this
 have hm2:H2.mine b=some ([self b,s],258):=by rw [hB.mine hlt hnot];exact hm
 have hf:=hO2.flat
 have hlt2:=mine_lt hO2.same.wf hm2
 have hO3:OS 1 257 H0 (H2.put b (.cells [self b,r2] 258 true)) r2 (l.length+t.length) (u8s l ++ u8s t):=
  hO2.but (S:=fun j=>j=b) ((But.refl (S:=fun j=>j=b) hO2.same.wf).put rfl hlt2 _) (fun k hk e=>by have:=h.young;omega) fun a ha e=>by
   have:=(hO2.ids ha).2.2
   rw [e,hm2] at this
   simp at this
 have hm3:(H2.put b (.cells [self b,r2] 258 true)).mine b=some ([self b,r2],258):=mine_put_same (mine_obj hm2).1
 have hst:gst none H2 (.pointer (some ⟨b,1,none⟩)) r2=some (H2.put b (.cells [self b,r2] 258 true)):=by
  rw [gst_1,hm2,Option.bind_some,gset_ok (by simp) hf];rfl
 generalize H2.put b (.cells [self b,r2] 258 true)=H3 at *
 repeat' (first|refine zz3 @g161.eq_1 @hs @hst ?_|(refine zh (fun hc=>?_) (fun hc=>?_)<;>try simp only [yL] at hc))
 refine hPost _ _ ⟨⟨_,_,hm3,.inr rfl,?_,fun e=>?_⟩,h.young⟩
 ·rw [u8s_append,List.length_append];exact hO3
 ·rw [List.append_eq_nil_iff] at e
  rw [(h0 (by rw [e.2];rfl)).1]
  exact hne e.1
end Go.Gh
end
section
namespace Go.Gh
set_option linter.unusedSimpArgs false
set_option linter.unusedVariables false
set_option maxHeartbeats 4000000
open Go.RowKit
set_option maxRecDepth 4000
structure Sy where
 c:Int
 i:Bool
 u:Bool
deriving DecidableEq,Inhabited
structure SR where
 t:List UInt8
 s:Sy
 y:List UInt8
deriving DecidableEq,Inhabited
def syC (s:Sy):List Value:=[.int .u8 s.c,.bool s.i,.bool s.u]
def runC (x:SR):List Value:=[.string (strB x.t),.int .u8 x.s.c,.bool x.s.i,.bool x.s.u,.string (strB x.y)]
def RunsC (l:List SR):List Value:=l.flatMap runC
theorem runC_len (x:SR):(runC x).length=5:=rfl
theorem RunsC_len (l:List SR):(RunsC l).length=l.length * 5:=rows_len runC_len l
def syV (s:Sy):Value:=.agg #[.int .u8 s.c,.bool s.i,.bool s.u]
def runV (x:SR):Value:=.agg #[.string (strB x.t),.int .u8 x.s.c,.bool x.s.i,.bool x.s.u,.string (strB x.y)]
theorem runV_eq (x:SR):Value.agg (runC x).toArray=runV x:=rfl
def qSy:EqK:=.parts [(0,none,.int),(1,none,.bool),(2,none,.bool)]
def qRun:EqK:=.parts [(0,none,.str),(1,some 3,.parts [(0,none,.int),(1,none,.bool),(2,none,.bool)]),(4,none,.str)]
theorem geq_int {n:Nat} {k:IntKind} {a b:Int}:geqIn n .int (.int k a) (.int k b)=some (a == b):=by
 cases n<;>simp [geqIn]
theorem geq_bool {n:Nat} {a b:Bool}:geqIn n .bool (.bool a) (.bool b)=some (a == b):=by
 cases n<;>simp [geqIn]
theorem geq_str {n:Nat} {a b:ByteArray}:geqIn n .str (.string a) (.string b)=some (a == b):=by
 cases n<;>simp [geqIn]
theorem geq_sy (n:Nat) (a b:Sy):geqIn (n+1) qSy (syV a) (syV b)=some (decide (a=b)):=by
 obtain ⟨c,i,u⟩:=a
 obtain ⟨c',i',u'⟩:=b
 have h0:∀ x y:Sy,geqIn (n+1) qSy (syV x) (syV y)=match geqIn n .int (.int .u8 x.c) (.int .u8 y.c) with
  |some true=>(match geqIn n .bool (.bool x.i) (.bool y.i) with
   |some true=>(match geqIn n .bool (.bool x.u) (.bool y.u) with
    |some true=>some true
    |z=>z)
   |z=>z)
  |z=>z:=fun x y=>rfl
 rw [h0]
 simp only [geq_int,geq_bool,Sy.mk.injEq]
 by_cases h:c=c'<;>by_cases h2:i=i'<;>by_cases h3:u=u'<;>simp [h,h2,h3]
theorem strB_beq {a b:List UInt8}:(strB a == strB b)=decide (a=b):=by
 show ((strB a).data == (strB b).data)=decide (a=b)
 rw [Bool.eq_iff_iff,beq_iff_eq,decide_eq_true_eq]
 simp [strB]
theorem geq_run (n:Nat) (a b:SR):geqIn (n+2) qRun (runV a) (runV b)=some (decide (a=b)):=by
 have h0:∀ x y:SR,geqIn (n+2) qRun (runV x) (runV y)=match geqIn (n+1) .str (.string (strB x.t)) (.string (strB y.t)) with
  |some true=>(match geqIn (n+1) qSy (syV x.s) (syV y.s) with
   |some true=>(match geqIn (n+1) .str (.string (strB x.y)) (.string (strB y.y)) with
    |some true=>some true
    |z=>z)
   |z=>z)
  |z=>z:=fun x y=>rfl
 rw [h0]
 obtain ⟨t,s,y⟩:=a
 obtain ⟨t',s',y'⟩:=b
 simp only [geq_str,geq_sy,strB_beq,SR.mk.injEq]
 by_cases h:t=t'<;>by_cases h2:s=s'<;>by_cases h3:y=y'<;>simp [h,h2,h3]
theorem gb_eqR {a b:SR}:gbin .eql (some qRun) (runV a) (runV b)=some (.bool (decide (a=b))):=by
 have:=geq_run 10 a b
 simp only [gbin,runV,geq] at this ⊢
 rw [this];rfl
theorem gb_neR {a b:SR}:gbin .neq (some qRun) (runV a) (runV b)=some (.bool (decide (¬ a=b))):=by
 have:=geq_run 10 a b
 simp only [gbin,runV,geq] at this ⊢
 rw [this];simp
theorem gb_eqS {a b:Sy}:gbin .eql (some qSy) (syV a) (syV b)=some (.bool (decide (a=b))):=by
 have:=geq_sy 11 a b
 simp only [gbin,syV,geq] at this ⊢
 rw [this];rfl
theorem gb_neS {a b:Sy}:gbin .neq (some qSy) (syV a) (syV b)=some (.bool (decide (¬ a=b))):=by
 have:=geq_sy 11 a b
 simp only [gbin,syV,geq] at this ⊢
 rw [this];simp
def rowV (v:Value):Value:=.agg #[v]
abbrev RR (H:GHeap) (v:Value) (l:List SR):Prop:=GArg1 H 5 v l.length (RunsC l)
theorem RR.rowN {H:GHeap} {v:Value} {l:List SR} (h:RR H v l) {k:Nat} (hk:k < l.length):H.rdn (blk v) (ofs v+k * 5) 5=some (runV l[k]!):=GRd.rowN (f:=runC) h.rd runC_len (by decide) hk
theorem RR.row {H:GHeap} {v:Value} {l:List SR} (h:RR H v l) {k c:Nat} (hk:k < l.length) (hc:c < 5):H.rd (blk v) (ofs v+k * 5+c)=(runC l[k]!)[c]?:=GRd.row (f:=runC) h.rd runC_len hk hc
end Go.Gh
end
section
namespace Go.Gh
set_option linter.unusedSimpArgs false
set_option linter.unusedVariables false
set_option maxHeartbeats 4000000
open Go.RowKit
set_option maxRecDepth 4000
theorem RR.isSl {H:GHeap} {v:Value} {l:List SR} (h:RR H v l):IsSl v l.length:=h.rd.isSl
theorem RR.later {H H':GHeap} {v:Value} {l:List SR} (h:RR H v l) (hw:H.wf) (hs:Same H H'):RR H' v l:=GArg1.same h hw hs
theorem RR.flat {H:GHeap} {v:Value} {l:List SR} (h:RR H v l):flatV v=true:=by
 obtain ⟨a,gc,e,_⟩:=h.sl
 rw [e];exact flatV_sl
abbrev VR':=Value × List SR
structure TR (H:GHeap) (v:Value) (L:List VR'):Prop where
 rd:GArg1 H 1 v L.length (L.map (·.1))
 rows:∀ x ∈ L,RR H x.1 x.2
theorem TR.later {H H':GHeap} {v:Value} {L:List VR'} (h:TR H v L) (hw:H.wf) (hs:Same H H'):TR H' v L:=⟨GArg1.same h.rd hw hs,fun x hx=>(h.rows x hx).later hw hs⟩
theorem TR.row {H:GHeap} {v:Value} {L:List VR'} (h:TR H v L) {j:Nat} (hj:j < L.length):H.rdn (blk v) (ofs v+j) 1=some (rowV L[j]!.1)∧H.rd (blk v) (ofs v+j)=some L[j]!.1∧RR H L[j]!.1 L[j]!.2:=by
 have h1:H.rd (blk v) (ofs v+j)=some L[j]!.1:=by
  rw [h.rd.rd.rd (by simpa using hj),List.getElem?_map,gget hj];rfl
 refine ⟨?_,h1,h.rows _ (by rw [getElem!_pos L j hj];exact List.getElem_mem _)⟩
 have h0:=h.rd.rd.rdn (by decide) (c:=j) (m:=1) (by decide) (by simp;omega)
 have e:(L.map (·.1)).drop j=L[j]!.1 :: (L.map (·.1)).drop (j+1):=by
  rw [List.drop_eq_getElem_cons (by simpa using hj),List.getElem_map,getElem!_pos L j hj]
 rw [h0,e];rfl
theorem TR.isSl {H:GHeap} {v:Value} {L:List VR'} (h:TR H v L):IsSl v L.length:=h.rd.rd.isSl
def Shorts (L:List VR'):Prop:=∀ x ∈ L,x.2.length≤4611686018427387904
theorem Shorts.at_ {L:List VR'} (h:Shorts L) {j:Nat} (hj:j < L.length):L[j]!.2.length≤4611686018427387904:=h _ (by rw [getElem!_pos L j hj];exact List.getElem_mem _)
end Go.Gh
end
section
namespace Go.Gh
set_option linter.unusedSimpArgs false
set_option linter.unusedVariables false
set_option maxHeartbeats 4000000
open Go.RowKit
set_option maxRecDepth 4000
abbrev OR (H0 H:GHeap) (v:Value) (l:List SR):Prop:=OS 5 5 H0 H v l.length (RunsC l)
theorem OR.rr {H0 H:GHeap} {v:Value} {l:List SR} (h:OR H0 H v l):RR H v l:=OwnG.arg h.same.wf h.own (.inr rfl)
theorem OS.unit_ne {s u s' u' n n':Nat} {H0 H1 H:GHeap} {v w:Value} {xs ys:List Value} (h:OS s u H0 H v n xs) (k:OS s' u' H1 H w n' ys) (hu:u≠u'):∀ a ∈ idOf v,¬ a ∈ idOf w:=fun a ha hb=>by
 have h1:=(h.ids ha).2.2
 have h2:=(k.ids hb).2.2
 rw [h1] at h2
 simp only [Option.some.injEq,Prod.mk.injEq] at h2
 exact hu h2.2
theorem OR.flat {H0 H:GHeap} {v:Value} {l:List SR} (h:OR H0 H v l):flatV v=true:=h.rr.flat
theorem OS.weaken {s u n:Nat} {H0 H1 H:GHeap} {v:Value} {xs:List Value} (h:OS s u H1 H v n xs) (hs:Same H0 H1):OS s u H0 H v n xs:=⟨hs.trans h.same,h.own,h.young.imp id fun k=>Nat.le_trans hs.len k⟩
theorem OS.setc {s u n i gc:Nat} {H0 H:GHeap} {v:Value} {xs:List Value} (h:OS s u H0 H v n xs) (e:v=.slice (some ⟨i,0,none⟩) n gc) {ys:List Value} (hy:ys.length=xs.length):OS s u H0 (H.put i (.cells ys u true)) v n ys∧But (fun k=>k=i) H (H.put i (.cells ys u true)):=by
 have hi:i ∈ idOf v:=by rw [e];simp [idOf]
 obtain ⟨h1,h2,h3⟩:=h.ids hi
 have hg:gc=0∨gc=n+1:=by
  rcases h.own.at_ with ⟨e2,_⟩|⟨j,gc',e2,hg,_⟩
  ·rw [e] at e2;cases e2
  ·rw [e] at e2;cases e2;exact hg
 exact ⟨⟨h.same.put h1 h2 _,⟨by rw [hy];exact h.own.len,.inr ⟨i,gc,e,hg,mine_put_same (mine_obj h3).1⟩⟩,h.young⟩,(But.refl (S:=fun k=>k=i) h.same.wf).put rfl h2 _⟩
theorem RunsC_set:∀ (l:List SR) (k:Nat) (t:List UInt8),k < l.length→(RunsC l).set (k * 5) (.string (strB t))=RunsC (l.set k {l[k]! with t:=t})
 |[],k,t,h=>by simp at h
 |x :: l,0,t,_=>by simp [RunsC,runC]
 |x :: l,k+1,t,h=>by
  have ih:=RunsC_set l k t (by simpa using h)
  have e:(k+1) * 5=(runC x).length+k * 5:=by rw [runC_len];omega
  have e2:RunsC (x :: l)=runC x ++ RunsC l:=by simp [RunsC]
  rw [e2,e,List.set_append,if_neg (by omega),Nat.add_sub_cancel_left,ih]
  simp [RunsC]
def runShp:Shp:=.st [.str,.st [.int .u8,.bool,.bool],.str]
end Go.Gh
end
