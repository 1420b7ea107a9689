/-
  Contracts of the code that the law reaches, and plain laws. Conditions: as each says.
-/
import Derived.Test.YtmlejgdohcpmjaaGreatDoorV13
import Derived.Test.YtmlejgdohcpmjaaGreatDoorV15
import Derived.RegionDies
import Derived.Recover
import Derived.Defers
import Derived.Laws.Pointers
set_option linter.all false
set_option maxHeartbeats 40000000
set_option maxRecDepth 100000
namespace Go.Proofs.YtmlejgdohcpmjaaGreatDoor
open Tryz
section
section
namespace Rd
open Go.RowKit Mem Img
section
variable {α β:Type}
def repM (p:List UInt8->Option (α×List UInt8)):Nat->List UInt8->Option (List α×List UInt8)
 |0,l=>some ([],l)
 |n+1,l=>(repM p n l).bind fun y=>(p y.2).map fun x=>(y.1++[x.1],x.2)
def mapO (f:α->Option β):List α->Option (List β)
 |[]=>some []
 |a :: t=>(f a).bind fun b=>(mapO f t).map (b :: ·)
end
def quadM (r:List UInt8):Option ((Int×Int×Int)×List UInt8):=(numM .i32 4 r).bind fun a=>(numM .i32 4 a.2).bind fun b=>(numM .u32 4 b.2).map fun c=>((a.1,b.1,c.1),c.2)
def phM (pool:List UInt8) (q:Int×Int×Int):Option Phase:=(abbrM pool q.2.2.toNat).map fun s=>⟨q.1,q.2.1,⟨s.toArray⟩⟩
def shM (phs:List Phase) (q:Int×Int):Option Shift:=(phs[q.2.toNat]?).map fun ph=>⟨q.1,ph⟩
def r3 (name:List UInt8) (first:Phase) (ss:List Shift) (l:List UInt8):Option (Table×List UInt8):=
 (numM .i64 8 l).bind fun till=>(numM .u8 1 till.2).bind fun t=>(repM ruleM t.1.toNat t.2).bind fun rs=>(numM .i32 4 rs.2).bind fun off=>(shortM off.2).map fun f=>(⟨⟨name.toArray⟩,first,ss,till.1,rs.1,off.1,⟨f.1.toArray⟩⟩,f.2)
def r2c (name:List UInt8) (s p:List Int) (q:List (Int×Int×Int)) (t:List UInt8×List UInt8):Option (Table×List UInt8):=
 (mapO (phM t.1) q).bind fun phs=>(mapO (shM phs) (s.zip p)).bind fun ss=>phs.head?.bind fun first=>r3 name first ss t.2
def r2 (name:List UInt8) (n k m:Nat) (l:List UInt8):Option (Table×List UInt8):=
 (repM (numM .i64 8) n l).bind fun s=>(repM (numM .u32 4) n s.2).bind fun p=>(repM quadM k p.2).bind fun q=>(takeM m q.2).bind fun t=>r2c name s.1 p.1 q.1 t
def r1 (l:List UInt8):Option (Table×List UInt8):=(shortM l).bind fun a=>(manyM 12 a.2).bind fun n=>(manyM 12 n.2).bind fun k=>(manyM 1 k.2).bind fun m=>r2 a.1 n.1.toNat k.1.toNat m.1.toNat m.2
end Rd
namespace Rd
open Go.RowKit Mem Img
def NewAt (B:Nat) (A:Option Addr) (n:Nat):Prop:=0<n->∃ b,A=some ⟨b,0,none⟩/\B<=b
def zTab:Array Value:=#[.string ⟨#[]⟩,.int .i64 0,.int .i64 0,.string ⟨#[]⟩,.slice none 0 0,.int .i64 0,.slice none 0 0,.int .i64 0,.string ⟨#[]⟩]
theorem own_own_ne {w:World} {base base' size size' n n':Nat} {e e':TypeId} {v v':Value} {xs xs':List Value} (h:w.ownsRow base e size v n xs) (h':w.ownsRow base' e' size' v' n' xs') (hne:e≠e'):v.ownBlock≠v'.ownBlock\/v.ownBlock=none:=by
 rcases h.2 with ⟨rfl,_⟩|⟨b,cap,cur,rfl,_,hh,_⟩
 ·exact .inr rfl
 ·refine .inl ?_
  have:=own_blk_ne h' (g:=b) (t:=e) (cs:=cur) hh (Ne.symm hne);exact fun e=>this e.symm
section
variable {w0 w w':World} {g X R0 base n:Nat} {cx cr:Array Value} {l l':List UInt8} {v:Value} {xs:List Value}
theorem grown_row (w:World) (b:Nat) (c:Array Value):w.grownBy (w.setRow b c) (some b):=⟨rfl,rfl,rfl,by simp,fun k _ hk=>setRow_other w b k _ (fun e=>hk (by simp [e]))⟩
end
theorem flat_len {α:Type} {f:α->List Value} {m:Nat} (hf:∀ a,(f a).length=m) (l:List α):(l.flatMap f).length=l.length*m:=by
 induction l with
 |nil=>simp
 |cons a t ih=>rw [List.flatMap_cons,List.length_append,hf,ih,List.length_cons,Nat.succ_mul];omega
end Rd
end
end
section
section
namespace Rd
open Go.RowKit Mem Img
end Rd
end
end
section
section
namespace Rd
open Go.RowKit Mem Img Rgt
theorem wpS_of_wp' {P:Program} {c:Code} {Q:Exit->Act->List Frame->World->Prop} {a:Act} {cs:List Frame} {w:World} (h:∀ Q':Exit->Act->World->Prop,(∀ e a' w',Q e a' cs w'->Q' e a' w')->c.wp P Q' a w):c.wpS P Q a cs w:=
 wpS_of_wp (h _ fun _ _ _ h=>h)
theorem assert_nil (w:World):(Instr.typeAssert .nilIface 20 39 true).run prog w= .ok (.tuple #[.int .i64 0,.bool false]) w:=by kernel_rfl
theorem assert_some (n:Int) (w:World):(Instr.typeAssert (.iface 39 (.int .i64 n)) 20 39 true).run prog w= .ok (.tuple #[.int .i64 n,.bool true]) w:=by kernel_rfl
def LP (w:World) (r:Option Table) (e:Ending) (w':World):Prop:=
 Below w.heap.size w w'/\match r with
  |some x=>∃ A c A2 c2,e= .returned (.tuple #[.agg (tabCells x A c A2 c2),.int .i64 0])/\TabOk x A A2 w'
  |none=>e= .returned (.tuple #[.agg zTab,.int .i64 18])
def TailIs (Pt:Table->Prop) (tb:Table->Bool) (m:Int):Prop:=∀ (x:Table) (A A2:Option Addr) (c c2:Nat) (w:World),Pt x->TabOk x A A2 w->w.cell? ⟨0,0,none⟩=some (.int .i64 m)->
 Calls prog 54 #[.agg (tabCells x A c A2 c2)] w fun e w'=>e= .returned (.bool (tb x))/\Below w.heap.size w w'
theorem row_new {w1:World} {X:Nat} {t:TypeId} {cx cy:Array Value} (h:Blk w1 X t cx):Blk (w1.setRow X cy) X t cy:=setRow_heap w1 X cx cy t (0,0) h
theorem reads_row {w1:World} {X B size n:Nat} {A:Option Addr} {xs:List Value} {cy:Array Value} (h:Reads w1 B size A n xs) (hn:NewAt (X+1) A n):Reads (w1.setRow X cy) B size A n xs:=
 ⟨h.1,fun h0=>by
  obtain ⟨ad,e,hb,hc⟩:=h.2 h0;obtain ⟨b,e2,hb2⟩:=hn h0;rw [e] at e2
  injection e2 with e2
  refine ⟨ad,e,hb,fun j u hu=>?_⟩
  rw [<-hc j u hu]
  have hbk:(ad.add j).block=b:=by rw [block_of_add,e2]
  exact World.cell?_of_block (w:=w1) (setRow_other w1 X _ cy (by omega))⟩
theorem NewAt.mono {B B':Nat} {A:Option Addr} {n:Nat} (h:NewAt B A n) (hB:B'<=B):NewAt B' A n:=fun h0=>by
 obtain ⟨b,e,hb⟩:=h h0
 exact ⟨b,e,by omega⟩
theorem tabOk_row {w1:World} {X:Nat} {x:Table} {A A2:Option Addr} {cy:Array Value} (h:TabOk x A A2 w1) (h1:NewAt (X+1) A x.shifts.length) (h2:NewAt (X+1) A2 x.tail.length):TabOk x A A2 (w1.setRow X cy):=by
 have hs:w1.heap.size<=(w1.setRow X cy).heap.size:=(grown_row w1 X cy).size
 exact ⟨(reads_row h.rs h1).more hs,(reads_row h.rt h2).more hs,h.ns,h.nt,h.name,h.format,h.first,h.shifts,h.rules⟩
theorem reads_set {w1:World} {X i B size n:Nat} {A:Option Addr} {xs:List Value} {u:Value} (h:Reads w1 B size A n xs) (hn:NewAt (X+1) A n):Reads (w1.setCell ⟨X,i,none⟩ u) B size A n xs:=
 ⟨h.1,fun h0=>by
  obtain ⟨ad,e,hb,hc⟩:=h.2 h0;obtain ⟨b,e2,hx⟩:=hn h0;rw [e] at e2
  injection e2 with e2
  refine ⟨ad,e,hb,fun j v hv=>?_⟩
  rw [<-hc j v hv]
  have hbk:(ad.add j).block=b:=by rw [block_of_add,e2]
  exact World.cell?_of_block (w:=w1) (Below.heap_setCell w1 ⟨X,i,none⟩ u _ (by rw [hbk];show b≠X;omega))⟩
theorem tabOk_set {w1:World} {X i:Nat} {x:Table} {A A2:Option Addr} {u:Value} (h:TabOk x A A2 w1) (h1:NewAt (X+1) A x.shifts.length) (h2:NewAt (X+1) A2 x.tail.length):TabOk x A A2 (w1.setCell ⟨X,i,none⟩ u):=by
 have hs:w1.heap.size<=(w1.setCell ⟨X,i,none⟩ u).heap.size:=by simp
 exact ⟨(reads_set h.rs h1).more hs,(reads_set h.rt h2).more hs,h.ns,h.nt,h.name,h.format,h.first,h.shifts,h.rules⟩
theorem row_far {w1:World} {X E:Nat} {t:TypeId} {cx cy:Array Value} (h:Blk w1 E t cx) (hne:E≠X):Blk (w1.setRow X cy) E t cx:=(setRow_other w1 X E cy hne).trans h
theorem row_below {w w1:World} {B X:Nat} {cy:Array Value} (h:Below B w w1) (hB:B<=w1.heap.size) (hX:B<=X):Below B w (w1.setRow X cy):=h.grown (grown_row w1 X cy) hB fun k e=>by injection e with e;omega
end Rd
end
end
end Go.Proofs.YtmlejgdohcpmjaaGreatDoor
