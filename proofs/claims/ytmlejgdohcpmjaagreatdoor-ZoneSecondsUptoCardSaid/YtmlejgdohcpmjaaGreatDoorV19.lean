/-
  Contracts of the code that the law reaches, and plain laws. Conditions: as each says.
-/
import Derived.Test.YtmlejgdohcpmjaaGreatDoorV18
set_option linter.all false
set_option maxHeartbeats 40000000
set_option maxRecDepth 100000
namespace Go.Proofs.YtmlejgdohcpmjaaGreatDoor
open Tryz
section
section
namespace Snd
open Go.RowKit Mem Civ Mom Img Plc Rul Src Go.Maps
def setL (rs:List Rule) (nm:ByteArray):List Rule:=rs.filter fun r=>decide (r.name=nm)
theorem setL_step {rs:List Rule} {nm:ByteArray} {k:Nat} (hk:k<rs.length):setL (rs.take (k+1)) nm=if decide (rs[k].name=nm)=true then setL (rs.take k) nm++[rs[k]] else setL (rs.take k) nm:=by
 unfold setL;rw [List.take_succ_eq_append_getElem hk,List.filter_append]
 split
 ·next h=>simp [h]
 ·next h=>simp [h]
theorem setL_len (rs:List Rule) (nm:ByteArray):(setL rs nm).length<=rs.length:=List.length_filter_le _ _
theorem info_rule:(prog.info? 69).map (fun i=>(i.zero,i.size,i.bytes))=some (some (.agg #[.string ⟨#[]⟩,.int .i64 0,.int .i64 0,.int .i64 0,.int .i64 0,.int .i64 0,.int .i64 0,.int .i64 0,.int .i64 0,.int .i64 0,.string ⟨#[]⟩]),11,104):=by kernel_rfl
theorem one_rule {x0 x10:ByteArray} {x1 x2 x3 x4 x5 x6 x7 x8 x9:Int}:∀ u∈(#[Value.string x0,.int .i64 x1,.int .i64 x2,.int .i64 x3,.int .i64 x4,.int .i64 x5,.int .i64 x6,.int .i64 x7,.int .i64 x8,.int .i64 x9,.string x10]:Array Value).toList,u.oneCell'=true:=by
 intro u hu;simp at hu
 rcases hu with rfl|rfl|rfl|rfl|rfl|rfl|rfl|rfl|rfl|rfl|rfl<;>rfl
end Snd
namespace Snd
open Go.RowKit Mem Civ Mom Img Plc Rul Src Go.Maps
def everN (l:List Rule):Nat:=(l.filter fun r=>decide (r.hi=1000000)).length
def setErr (l:List Rule):Int:=if crowdB l=true then 12 else if 2<everN l then 15 else if nearB l=true then 17 else 0
def setsL (all:List Rule):List ByteArray->List Rule->Nat->Flaw
 |_,[],_=>noFlaw
 |seen,x :: t,i=>if inL seen x.name=true then setsL all seen t (i+1) else if setErr (setL all x.name)=0 then setsL all (seen++[x.name]) t (i+1) else ⟨setErr (setL all x.name),1,i,0⟩
def setsB (s:Src):Flaw:=setsL s.rules [] s.rules 0
end Snd
end
end
section
section
namespace Snd
open Go.RowKit Mem Civ Mom Img Plc Rul Src Go.Maps
def AheadAt (A:Option Addr) (n c:Nat) (t sv:Int) (w:World):Prop:=
 ∀ z,Below w.heap.size w z->Calls prog 69 #[.slice A n c,.int .i64 t] z fun e w'=>∃ (a r:Int) (s:ByteArray) (b:Bool),e= .returned (.tuple #[.agg #[.int .i64 a,.int .i64 r,.int .i64 sv,.string s],.bool b])/\Below z.heap.size z w'
def savI (x:Era) (sv:Int):Int:=if x.kind=2 then sv else x.save
def endT (x:Era):Int:=(localO x.spot x.year).getD 0
def endA (x:Era):Int:=if x.spot.ref=2 then endT x else wrap64 (endT x - x.off)
def endI (x:Era) (sv:Int):Int:=if x.spot.ref=0 then wrap64 (endA x - savI x sv) else endA x
def endO (x:Era) (sv:Int):Value:=if x.till=true then .tuple #[.int .i64 (endI x sv),.bool true] else .tuple #[.int .i64 0,.bool false]
end Snd
namespace Snd
open Go.RowKit Mem Civ Mom Img Plc Rul Src Go.Maps
theorem grown_row (w:World) (b:Nat) (c:Array Value):w.grownBy (w.setRow b c) (some b):=⟨rfl,rfl,rfl,by simp,fun k _ hk=>setRow_other w b k _ (fun e=>hk (by simp [e]))⟩
def setOf (rs:List Rule) (x:Era):List Rule:=if x.kind=2 then setL rs x.rules else []
end Snd
namespace Snd
open Go.RowKit Mem Civ Mom Img Plc Rul Src Go.Maps
end Snd
namespace Snd
open Go.RowKit Mem Civ Mom Img Plc Rul Src Go.Maps
end Snd
namespace Snd
open Go.RowKit Mem Civ Mom Img Plc Rul Src Go.Maps
end Snd
namespace Snd
open Go.RowKit Mem Civ Mom Img Plc Rul Src Go.Maps
end Snd
namespace Snd
open Go.RowKit Mem Civ Mom Img Plc Rul Src Go.Maps
def farB (off:Int) (rs:List Rule):Bool:= !rs.all fun r=>Rgt.dayB (wrap64 (off+r.save))
end Snd
end
end
end Go.Proofs.YtmlejgdohcpmjaaGreatDoor
