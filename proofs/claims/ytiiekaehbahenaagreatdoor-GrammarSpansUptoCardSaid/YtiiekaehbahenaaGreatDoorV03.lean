/-
  Contracts of the code that the law reaches, and plain laws. Conditions: as each says.
-/
import Derived.Test.YtiiekaehbahenaaGreatDoorV00
import Derived.Test.YtiiekaehbahenaaGreatDoorV02
set_option linter.all false
set_option maxHeartbeats 40000000
set_option maxRecDepth 100000
namespace Go.Proofs.YtiiekaehbahenaaGreatDoor
section
section
namespace Atl
open Go.RowKit Mem
theorem drw2 (w:World) (a b:Nat):(w.drewN a).drewN b=w.drewN (a+b):=by
 simp [World.drewN,Nat.add_assoc]
structure Kp (P:Nat->Prop) (w W:World):Prop where
 os:W.os=w.os
 tape:W.tape=w.tape
 output:W.output=w.output
 size:w.heap.size<=W.heap.size
 same:∀ k,k<w.heap.size->¬ P k->W.heap[k]?=w.heap[k]?
theorem Kp.refl (P:Nat->Prop) (w:World):Kp P w w:=⟨rfl,rfl,rfl,Nat.le_refl _,fun _ _ _=>rfl⟩
theorem Kp.trans {P:Nat->Prop} {w W X:World} (h:Kp P w W) (k:Kp P W X):Kp P w X:=
 ⟨k.os.trans h.os,k.tape.trans h.tape,k.output.trans h.output,Nat.le_trans h.size k.size,fun j h1 h2=>(k.same j (Nat.lt_of_lt_of_le h1 h.size) h2).trans (h.same j h1 h2)⟩
theorem Kp.mono {P Q:Nat->Prop} {w W:World} (h:Kp P w W) (hq:∀ k,P k->Q k):Kp Q w W:=⟨h.os,h.tape,h.output,h.size,fun k h1 h2=>h.same k h1 fun h3=>h2 (hq k h3)⟩
theorem Kp.below {P:Nat->Prop} {w W:World} (h:Below w.heap.size w W):Kp P w W:=⟨h.os,h.tape,h.output,h.size,fun k h1 _=>h.block k h1⟩
theorem Kp.bel {P:Nat->Prop} {B:Nat} {w W:World} (h:Kp P w W) (hB:B<=w.heap.size) (hP:∀ k,P k->B<=k):Below B w W:=
 ⟨h.os,h.tape,h.output,h.size,fun k hk=>h.same k (by omega) fun h2=>by have:=hP k h2;omega⟩
theorem Kp.set {P:Nat->Prop} {w W:World} (h:Kp P w W) {p:Addr} (hp:P p.block) (v:Value):Kp P w (W.setCell p v):=
 ⟨h.os,h.tape,h.output,by have:=h.size;simp;omega,fun k h1 h2=>(Below.heap_setCell W p v k (fun e=>h2 (by rw [e];exact hp))).trans (h.same k h1 h2)⟩
theorem Kp.drew {P:Nat->Prop} {w W:World} (h:Kp P w W):Kp P w W.drew:=⟨h.os,h.tape,h.output,h.size,h.same⟩
theorem Kp.alloc {P:Nat->Prop} {w W:World} (h:Kp P w W) (o:Obj):Kp P w (W.alloc o):=
 h.trans (Kp.below ((Below.refl _ _).alloc (Nat.le_refl _) o))
theorem Kp.cell {P:Nat->Prop} {w W:World} (h:Kp P w W) {p:Addr} (hb:p.block<w.heap.size) (hp:¬ P p.block):W.cell? p=w.cell? p:=
 World.cell?_of_block (h.same p.block hb hp)
theorem Kp.blk {P:Nat->Prop} {w W:World} (h:Kp P w W) {g:Nat} {t:TypeId} {cs:Array Value} (hb:Blk w g t cs) (hp:¬ P g):Blk W g t cs:=(h.same g hb.lt hp).trans hb
def RdA (P:Nat->Prop) (w:World) (size:Nat) (A:Option Addr) (n:Nat) (xs:List Value):Prop:=Reads w w.heap.size size A n xs/\∀ ad,A=some ad->0<n->¬ P ad.block
theorem RdA.kp {P Q:Nat->Prop} {w W:World} {size n:Nat} {A:Option Addr} {xs:List Value} (h:RdA P w size A n xs) (hk:Kp Q w W) (hq:∀ k,Q k->P k):RdA P W size A n xs:=
 ⟨⟨h.1.1,fun h0=>by
  obtain ⟨ad,e,hb,hc⟩:=h.1.2 h0
  refine ⟨ad,e,Nat.lt_of_lt_of_le hb hk.size,fun j u hu=>?_⟩
  rw [World.cell?_of_block (hk.same (ad.add j).block (by rw [block_of_add];exact hb) (by rw [block_of_add];exact fun h3=>h.2 ad e h0 (hq _ h3)))]
  exact hc j u hu⟩,h.2⟩
theorem RdA.none_ {P:Nat->Prop} {w:World} {size:Nat}:RdA P w size none 0 []:=⟨Reads.none_,fun _ e=>by cases e⟩
theorem RdA.own {P:Nat->Prop} {w:World} {B size n c:Nat} {e:TypeId} {A:Option Addr} {xs:List Value} (h:w.ownsRow B e size (.slice A n c) n xs) (hP:∀ k,P k->k<B):RdA P w size A n xs:=by
 refine ⟨Reads.of_own h,fun ad e h0 hp=>?_⟩
 subst e
 have h1:=(h.lt ad.block (by
  rcases h.2 with ⟨hv,h2⟩|⟨g,cap,cur,hv,_⟩
  ·cases hv
  ·injection hv with hv _ _
   injection hv with hv
   subst hv
   rfl)).1
 have h2:=hP _ hp;omega
end Atl
end
end
section
section
namespace Gr
open Go.RowKit Mem
abbrev Txt:=List UInt8
def byA (l:Txt) (i:Nat):Nat:=match l[i]? with|some c=>c.toNat|none=>0
def dgA (l:Txt) (i:Nat):Bool:=match l[i]? with|some c=>decide (48<=c.toNat) && decide (c.toNat<=57)|none=>false
def oneA (l:Txt) (of:List UInt8) (i:Nat):Bool:=match l[i]? with|some c=>of.contains c|none=>false
def numA (l:Txt):Nat->Nat->Nat->Option (Nat×Nat)
 |0,i,v=>some (v,i)
 |n+1,i,v=>if dgA l i=true then numA l n (i+1) (v*10+(byA l i - 48)) else none
def digA (l:Txt) (n i:Nat):Option (Nat×Nat):=numA l n i 0
def twoA (l:Txt) (lo hi i:Nat):Option (Nat×Nat):=(digA l 2 i).bind fun x=>if x.1<lo\/hi<x.1 then none else some x
structure DateT where
 y:Int
 m:Nat
 d:Nat
def dayA (l:Txt) (y:Int) (i:Nat):Option (DateT×Nat):=
 (twoA l 1 12 (if oneA l [45] i=true then i+1 else i)).bind fun x=>
  if (oneA l [45] i && !oneA l [45] x.2)=true then none
  else (twoA l 1 31 (if oneA l [45] i=true then x.2+1 else x.2)).bind fun z=>some (⟨y,x.1,z.1⟩,z.2)
def dateA (l:Txt) (i:Nat):Option (DateT×Nat):=
 if oneA l [43] i=true then (digA l 6 (i+1)).bind fun x=>dayA l x.1 x.2
 else if oneA l [45] i=true then (digA l 6 (i+1)).bind fun x=>if x.1=0 then none else dayA l (-(x.1:Int)) x.2
 else (digA l 4 i).bind fun x=>dayA l x.1 x.2
def fraA (l:Txt):Nat->Nat->Nat->Nat×Nat×Nat
 |0,i,v=>(v,0,i)
 |f+1,i,v=>if dgA l i=true then fraA l f (i+1) (v*10+(byA l i - 48)) else (v,f+1,i)
def partA (l:Txt) (i:Nat):Option (Int×Nat):=
 if oneA l [46,44] i=true then
  if (fraA l 9 (i+1) 0).2.1=9\/dgA l (fraA l 9 (i+1) 0).2.2=true then none
  else some (((fraA l 9 (i+1) 0).1*10 ^ (fraA l 9 (i+1) 0).2.1:Nat),(fraA l 9 (i+1) 0).2.2)
 else some (-1,i)
def moreA (l:Txt) (long:Bool) (i:Nat):Bool:=if long=true then oneA l [58] i else dgA l i
def skipA (long:Bool) (i:Nat):Nat:=if long=true then i+1 else i
structure ClkT where
 h:Nat
 m:Nat
 s:Nat
 n:Nat
def secA (l:Txt) (most:Nat) (long:Bool) (h m i:Nat):Option (ClkT×Nat):=
 if moreA l long i=true then (twoA l 0 most (skipA long i)).bind fun x=>some (⟨h,m,x.1,3⟩,x.2)
 else some (⟨h,m,0,2⟩,i)
def minA (l:Txt) (most:Nat) (long:Bool) (h i:Nat):Option (ClkT×Nat):=
 if moreA l long i=true then (twoA l 0 59 (skipA long i)).bind fun x=>secA l most long h x.1 x.2
 else some (⟨h,0,0,1⟩,i)
def clkA (l:Txt) (most i:Nat):Option (ClkT×Nat):=(twoA l 0 23 i).bind fun x=>minA l most (oneA l [58] x.2) x.1 x.2
structure TimT where
 h:Nat
 m:Nat
 s:Nat
 ns:Nat
def timA (l:Txt) (i:Nat):Option (TimT×Nat):=(clkA l 60 i).bind fun x=>
 if x.1.n=3 then (partA l x.2).bind fun z=>some (⟨x.1.h,x.1.m,min x.1.s 59,z.1.toNat⟩,z.2)
 else some (⟨x.1.h,x.1.m,min x.1.s 59,0⟩,x.2)
def offA (l:Txt) (i:Nat):Option ((Nat×Int)×Nat):=
 if oneA l [90,122] i=true then some ((1,0),i+1)
 else if oneA l [43,45] i=true then (clkA l 59 (i+1)).bind fun x=>
  some ((2,if oneA l [45] i=true then -((x.1.h*3600+x.1.m*60+x.1.s:Nat):Int) else ((x.1.h*3600+x.1.m*60+x.1.s:Nat):Int)),x.2)
 else some ((0,0),i)
def braA (l:Txt) (i:Nat):Option ((Txt×Bool)×Nat):=
 if 93∈l.drop (if oneA l [33] (i+1)=true then i+2 else i+1) then
  some (((l.drop (if oneA l [33] (i+1)=true then i+2 else i+1)).takeWhile (· != 93),oneA l [33] (i+1)),(if oneA l [33] (i+1)=true then i+2 else i+1)+((l.drop (if oneA l [33] (i+1)=true then i+2 else i+1)).takeWhile (· != 93)).length+1)
 else none
def smallB (c:UInt8):Bool:=decide (97<=c.toNat) && decide (c.toNat<=122)
def numB (c:UInt8):Bool:=decide (48<=c.toNat) && decide (c.toNat<=57)
def keyC (first:Bool) (c:UInt8):Bool:=smallB c || c == 95 || (!first && (c == 45 || numB c))
def keyB (l:Txt):Bool:=match l with|[]=>false|c :: r=>keyC true c && r.all (keyC false)
def clockA (l:Txt):Option TimT:=(timA l (if oneA l [84,116] 0=true then 1 else 0)).bind fun x=>if x.2<l.length then none else some x.1
def cntA (l:Txt):Nat->Nat->Int->Bool->(Int×Bool)×Nat
 |0,i,n,ok=>((n,ok),i)
 |f+1,i,n,ok=>if dgA l i=true then
   cntA l f (i+1) (if (ok && (decide (n<922337203685477580) || (n == 922337203685477580 && decide ((byA l i:Int) - 48<=7))))=true then n*10+((byA l i:Int) - 48) else n) (ok && (decide (n<922337203685477580) || (n == 922337203685477580 && decide ((byA l i:Int) - 48<=7))))
  else ((n,ok),i)
def countA (l:Txt) (i:Nat):Option ((Int×Bool)×Nat):=if dgA l i=true then some (cntA l (l.length - i) i 0 true) else none
def whA (l:Txt) (lets:List UInt8) (i:Nat):Option Nat:=match l[i]? with
 |some c=>if (lets++lets.map (·+32)).contains c=true then lets.findIdx? (fun d=>d=c\/d+32=c) else none
 |none=>none
structure UnT where
 had:Int
 part:Int
 room:Bool
 f:List Int
def unitA (l:Txt) (lets:List UInt8) (b:Nat) (tm:Bool):Nat->UnT->Nat->Option (UnT×Nat)
 |0,s,i=>some (s,i)
 |f+1,s,i=>if dgA l i=true/\s.part<0 then
   (countA l i).bind fun c=>(if tm=true then partA l c.2 else some (s.part,c.2)).bind fun p=>
    (whA l lets p.2).bind fun j=>if (j:Int)<=s.had then none else unitA l lets b tm f ⟨j,p.1,s.room && c.1.2,s.f.set (b+j) c.1.1⟩ (p.2+1)
  else some (s,i)
def overF (f:List Int) (u:Int) (part:Int):List Int:=
 if u=0 then ((f.set 5 (part*3600 / 60000000000)).set 6 (part*3600 % 60000000000 / 1000000000)).set 7 (part*3600 % 60000000000 % 1000000000)
 else if u=1 then (f.set 6 (part*60 / 1000000000)).set 7 (part*60 % 1000000000)
 else f.set 7 part
def endA (l:Txt) (had:Int) (room:Bool) (f:List Int) (i:Nat):Option (Bool×List Int):=if had<0 then none else if i<l.length then none else some (room,f)
def spanA (l:Txt):Option (Bool×List Int):=
 if oneA l [80,112] (if oneA l [43,45] 0=true then 1 else 0)=true then
  (unitA l [89,77,87,68] 0 false 8 ⟨-1,-1,true,[0,0,0,0,0,0,0,0]⟩ ((if oneA l [43,45] 0=true then 1 else 0)+1)).bind fun x=>
   if oneA l [84,116] x.2=true then
    (unitA l [72,77,83] 4 true 8 ⟨-1,-1,x.1.room,x.1.f⟩ (x.2+1)).bind fun y=>
     endA l y.1.had y.1.room (if 0<=y.1.had/\0<y.1.part then overF y.1.f y.1.had y.1.part else y.1.f) y.2
   else endA l x.1.had x.1.room x.1.f x.2
 else none
end Gr
end
end
end Go.Proofs.YtiiekaehbahenaaGreatDoor
