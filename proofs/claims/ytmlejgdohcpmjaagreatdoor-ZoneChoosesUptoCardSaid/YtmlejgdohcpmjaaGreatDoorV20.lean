/-
  Contracts of the code that the law reaches, and plain laws. Conditions: as each says.
-/
import Derived.Test.YtmlejgdohcpmjaaGreatDoorV19
set_option linter.all false
set_option maxHeartbeats 40000000
set_option maxRecDepth 100000
namespace Go.Proofs.YtmlejgdohcpmjaaGreatDoor
section
section
namespace Snd
open Go.RowKit Mem Civ Mom Img Plc Rul Src Go.Maps
def eraE (rs:List Rule) (x:Era) (a:Int) (had:Bool) (b:Int) (has:Bool):Int:=
 if x.kind=2/\(setL rs x.rules).length=0 then 8
 else if x.kind=2/\farB x.off (setL rs x.rules)=true then 11
 else if Rgt.dayB (wrap64 (x.off+x.save))=false then 11
 else if had=true/\has=true/\b<=a then 16 else 0
end Snd
namespace Snd
open Go.RowKit Mem Civ Mom Img Plc Rul Src Go.Maps
def EA (s:Src) (sv:Era->Int):Prop:=
 ∀ zn∈s.zones,∀ x∈zn.eras,x.till=true->x.kind=2->∀ Ae ce z,Reads z z.heap.size 11 Ae (setOf s.rules x).length ((setOf s.rules x).flatMap Rule.cells)->AheadAt Ae (setOf s.rules x).length ce (endT x) (sv x) z
def endP (sv:Era->Int) (x:Era):Int:=if x.till=true then endI x (sv x) else 0
def prevP (sv:Era->Int) (es:List Era):Nat->Int×Bool
 |0=>(0,false)
 |k+1=>match es[k]? with
  |some y=>(endP sv y,y.till)
  |none=>(0,false)
def eraAt (rs:List Rule) (sv:Era->Int) (es:List Era) (k:Nat):Int:=match es[k]? with
 |some x=>eraE rs x (prevP sv es k).1 (prevP sv es k).2 (endP sv x) x.till
 |none=>0
theorem endO_is (sv:Era->Int) (x:Era):endO x (sv x)= .tuple #[.int .i64 (endP sv x),.bool x.till]:=by
 unfold endO endP
 cases x.till<;>rfl
end Snd
namespace Snd
open Go.RowKit Mem Civ Mom Img Plc Rul Src Go.Maps
def zErr (rs:List Rule) (sv:Era->Int) (es:List Era):Option Nat:=(List.range es.length).find? fun k=> !decide (eraAt rs sv es k=0)
theorem zErr_hit {rs:List Rule} {sv:Era->Int} {es:List Era} {k:Nat} (hk:k<es.length) (h:∀ j,j<k->eraAt rs sv es j=0) (hne:¬ eraAt rs sv es k=0):zErr rs sv es=some k:=by
 unfold zErr
 rw [List.find?_range_eq_some]
 refine ⟨by simp [hne],List.mem_range.2 hk,fun j hj=>by simp [h j hj]⟩
theorem zErr_none {rs:List Rule} {sv:Era->Int} {es:List Era} (h:∀ j,j<es.length->eraAt rs sv es j=0):zErr rs sv es=none:=by
 unfold zErr
 rw [List.find?_eq_none]
 intro j hj;simp [h j (List.mem_range.1 hj)]
def zonesL (rs:List Rule) (sv:Era->Int):List ByteArray->List ZoneM->Nat->Flaw
 |_,[],_=>noFlaw
 |seen,z :: t,i=>if inL seen z.name=true then ⟨10,2,i,0⟩ else match zErr rs sv z.eras with
  |some k=>⟨eraAt rs sv z.eras k,2,i,k⟩
  |none=>zonesL rs sv (seen++[z.name]) t (i+1)
def zonesB (s:Src) (sv:Era->Int):Flaw:=zonesL s.rules sv [] s.zones 0
end Snd
end
end
section
section
namespace Snd
open Go.RowKit Mem Civ Mom Img Plc Rul Src Go.Maps
def svF (s:Src) (x:Era):Int:=((Ahd.aheadO (setOf s.rules x) (endT x)).getD Ahd.noTurn).save
theorem endT_bd (x:Era): -9223372036854775808<=endT x/\endT x<=9223372036854775807:=by
 unfold endT localO
 cases h:onO x.spot x.year with
 |none=>simp
 |some n=>
  obtain ⟨⟨h1,h2⟩,h3,_⟩:=onO_bd h;obtain ⟨_,_,_,_,h5,h6,_⟩:=h3;simp only [Option.map_some,Option.getD_some];omega
theorem setOf_len (rs:List Rule) (x:Era):(setOf rs x).length<=rs.length:=by
 unfold setOf
 split
 ·exact setL_len _ _
 ·simp
theorem ea_any (s:Src) (hn:s.rules.length<=1000000):EA s (svF s):=fun zn _ x _ _ _ Ae ce z hr z2 hb=>by
 refine (Ahd.ahead_any (setOf s.rules x) Ae ce (endT x) z2 ((hr.below hb).more hb.size) (Nat.le_trans (setOf_len _ _) hn) (endT_bd x).1 (endT_bd x).2).mono ?_
 rintro e w' ⟨rfl,hb2⟩;unfold svF;generalize (Ahd.aheadO (setOf s.rules x) (endT x)).isSome=b;obtain ⟨t0,t1,t2,t3⟩:Turn:=(Ahd.aheadO (setOf s.rules x) (endT x)).getD Ahd.noTurn;exact ⟨_,_,_,_,rfl,hb2⟩
def firstF:List Flaw->Flaw
 |[]=>noFlaw
 |f :: t=>if f=noFlaw then firstF t else f
def checkB (s:Src):Flaw:=if srcB s=true then firstF [ordersB s,setsB s,zonesB s (svF s),linksB s,targetsB s] else ⟨1,0,0,0⟩
end Snd
end
end
end Go.Proofs.YtmlejgdohcpmjaaGreatDoor
