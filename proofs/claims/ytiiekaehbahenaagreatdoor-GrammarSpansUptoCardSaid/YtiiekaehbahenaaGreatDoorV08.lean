/-
  Contracts of the code that the law reaches, and plain laws. Conditions: as each says.
-/
import Derived.Test.YtiiekaehbahenaaGreatDoorV03
set_option linter.all false
set_option maxHeartbeats 40000000
set_option maxRecDepth 100000
namespace Go.Proofs.YtiiekaehbahenaaGreatDoor
section
namespace Gr
open Go.RowKit Mem
structure Tw (S:List (List UInt8)) (l m:Txt):Prop where
 len:l.length=m.length
 dg:∀ i,dgA l i=dgA m i
 val:∀ i,dgA l i=true->byA l i=byA m i
 one:∀ of∈S,∀ i,oneA l of i=oneA m of i
def relB (S:List (List UInt8)) (c d:UInt8):Bool:=(numB c == numB d) && (!numB c || c == d) && S.all fun of=>of.contains c == of.contains d
theorem Tw.of {S:List (List UInt8)} {l m:Txt} (hl:l.length=m.length) (h:∀ (i:Nat) (c d:UInt8),l[i]?=some c->m[i]?=some d->relB S c d=true):Tw S l m:=by
 have two:∀ i:Nat,(l[i]?=none/\m[i]?=none)\/∃ c d,l[i]?=some c/\m[i]?=some d/\relB S c d=true:=by
  intro i
  by_cases hi:i<l.length
  ·have a:=List.getElem?_eq_getElem hi
   have b:=List.getElem?_eq_getElem (hl ▸ hi:i<m.length)
   exact .inr ⟨_,_,a,b,h i _ _ a b⟩
  ·exact .inl ⟨List.getElem?_eq_none (by omega),List.getElem?_eq_none (by omega)⟩
 refine ⟨hl,fun i=>?_,fun i hd=>?_,fun of ho i=>?_⟩
 ·rcases two i with ⟨a,b⟩|⟨c,d,a,b,r⟩
  ·rw [dgA,dgA,a,b]
  ·simp only [relB,Bool.and_eq_true,beq_iff_eq] at r
   rw [dgA,dgA,a,b];exact r.1.1
 ·rcases two i with ⟨a,b⟩|⟨c,d,a,b,r⟩
  ·rw [byA,byA,a,b]
  ·simp only [relB,Bool.and_eq_true,beq_iff_eq] at r
   rw [dgA,a] at hd;have hn:numB c=true:=hd;have:=r.1.2;rw [hn] at this;simp only [Bool.not_true,Bool.false_or,beq_iff_eq] at this;rw [byA,byA,a,b,this]
 ·rcases two i with ⟨a,b⟩|⟨c,d,a,b,r⟩
  ·rw [oneA,oneA,a,b]
  ·simp only [relB,Bool.and_eq_true,List.all_eq_true,beq_iff_eq] at r
   rw [oneA,oneA,a,b];exact r.2 of ho
section
variable {S:List (List UInt8)} {l m:Txt} (h:Tw S l m)
include h
theorem num_tw:∀ (n i v:Nat),numA l n i v=numA m n i v
 |0,i,v=>rfl
 |n+1,i,v=>by
  rw [numA,numA,<-h.dg i]
  split
  ·next hd=>rw [h.val i hd];exact num_tw n _ _
  ·rfl
theorem dig_tw (n i:Nat):digA l n i=digA m n i:=num_tw h n i 0
theorem two_tw (lo hi i:Nat):twoA l lo hi i=twoA m lo hi i:=by rw [twoA,twoA,dig_tw h]
theorem more_tw (h58:[58]∈S) (long:Bool) (i:Nat):moreA l long i=moreA m long i:=by rw [moreA,moreA,h.one _ h58,h.dg]
theorem sec_tw (h58:[58]∈S) (most:Nat) (long:Bool) (a b i:Nat):secA l most long a b i=secA m most long a b i:=by
 rw [secA,secA,more_tw h h58,two_tw h]
theorem min_tw (h58:[58]∈S) (most:Nat) (long:Bool) (a i:Nat):minA l most long a i=minA m most long a i:=by
 rw [minA,minA,more_tw h h58,two_tw h];simp only [sec_tw h h58]
theorem clk_tw (h58:[58]∈S) (most i:Nat):clkA l most i=clkA m most i:=by
 rw [clkA,clkA,two_tw h];simp only [min_tw h h58,h.one _ h58]
theorem fra_tw:∀ (f i v:Nat),fraA l f i v=fraA m f i v
 |0,i,v=>rfl
 |f+1,i,v=>by
  rw [fraA,fraA,<-h.dg i]
  split
  ·next hd=>rw [h.val i hd];exact fra_tw f _ _
  ·rfl
theorem part_tw (hp:[46,44]∈S) (i:Nat):partA l i=partA m i:=by
 rw [partA,partA,h.one _ hp,fra_tw h,h.dg]
theorem tim_tw (h58:[58]∈S) (hp:[46,44]∈S) (i:Nat):timA l i=timA m i:=by
 rw [timA,timA,clk_tw h h58];simp only [part_tw h hp]
theorem off_tw (h58:[58]∈S) (hz:[90,122]∈S) (hs:[43,45]∈S) (hm:[45]∈S) (i:Nat):offA l i=offA m i:=by
 rw [offA,offA,h.one _ hz,h.one _ hs,h.one _ hm,clk_tw h h58]
theorem day_tw (hm:[45]∈S) (y:Int) (i:Nat):dayA l y i=dayA m y i:=by
 rw [dayA,dayA,h.one _ hm,two_tw h];simp only [h.one _ hm,two_tw h]
theorem date_tw (hp:[43]∈S) (hm:[45]∈S) (i:Nat):dateA l i=dateA m i:=by
 rw [dateA,dateA,h.one _ hm,h.one _ hp];simp only [dig_tw h,day_tw h hm]
theorem cnt_tw:∀ (f i:Nat) (n:Int) (ok:Bool),cntA l f i n ok=cntA m f i n ok
 |0,i,n,ok=>rfl
 |f+1,i,n,ok=>by
  rw [cntA,cntA,<-h.dg i]
  split
  ·next hd=>rw [h.val i hd];exact cnt_tw f _ _ _
  ·rfl
theorem count_tw (i:Nat):countA l i=countA m i:=by rw [countA,countA,h.dg,cnt_tw h,h.len]
theorem unit_tw (hp:[46,44]∈S) {lets:List UInt8} (hw:∀ i,whA l lets i=whA m lets i) (b:Nat) (tm:Bool):∀ (f:Nat) (s:UnT) (i:Nat),unitA l lets b tm f s i=unitA m lets b tm f s i
 |0,s,i=>rfl
 |f+1,s,i=>by
  rw [unitA,unitA,h.dg];simp only [count_tw h,part_tw h hp,hw,unit_tw hp hw b tm f]
theorem end_tw (had:Int) (room:Bool) (f:List Int) (i:Nat):endA l had room f i=endA m had room f i:=by rw [endA,endA,h.len]
theorem span_tw (hs:[43,45]∈S) (hP:[80,112]∈S) (hT:[84,116]∈S) (hp:[46,44]∈S) (h1:∀ i,whA l [89,77,87,68] i=whA m [89,77,87,68] i) (h2:∀ i,whA l [72,77,83] i=whA m [72,77,83] i):spanA l=spanA m:=by
 rw [spanA,spanA,h.one _ hs,h.one _ hP];simp only [unit_tw h hp h1,unit_tw h hp h2,end_tw h,h.one _ hT]
end
def sh {α:Type} (r:Option (α×Nat)):Option (α×Nat):=r.map fun x=>(x.1,x.2+1)
section
variable (x:UInt8) (l:Txt)
theorem by_sh (i:Nat):byA (x :: l) (i+1)=byA l i:=rfl
theorem dg_sh (i:Nat):dgA (x :: l) (i+1)=dgA l i:=rfl
theorem one_sh (of:List UInt8) (i:Nat):oneA (x :: l) of (i+1)=oneA l of i:=rfl
theorem wh_sh (lets:List UInt8) (i:Nat):whA (x :: l) lets (i+1)=whA l lets i:=rfl
theorem fra_sh:∀ (f i v:Nat),fraA (x :: l) f (i+1) v=((fraA l f i v).1,(fraA l f i v).2.1,(fraA l f i v).2.2+1)
 |0,i,v=>rfl
 |f+1,i,v=>by
  rw [fraA,fraA,dg_sh,by_sh]
  split
  ·exact fra_sh f _ _
  ·rfl
theorem part_sh (i:Nat):partA (x :: l) (i+1)=sh (partA l i):=by
 have e:=fra_sh x l 9 (i+1) 0;rw [partA,partA,one_sh];obtain ⟨F,hF⟩:∃ F,fraA (x :: l) 9 (i+1+1) 0=F:=⟨_,rfl⟩;obtain ⟨G,hG⟩:∃ G,fraA l 9 (i+1) 0=G:=⟨_,rfl⟩;rw [hF,hG] at e;rw [hF,hG];clear hF hG;obtain ⟨p,q,r⟩:=G;subst e
 by_cases h0:oneA l [46,44] i=true
 ·rw [if_pos h0,if_pos h0]
  by_cases a:q=9\/dgA l r=true
  ·rw [if_pos a];exact if_pos a
  ·rw [if_neg a];exact if_neg a
 ·rw [if_neg h0,if_neg h0]
  rfl
theorem cnt_sh:∀ (f i:Nat) (n:Int) (ok:Bool),cntA (x :: l) f (i+1) n ok=((cntA l f i n ok).1,(cntA l f i n ok).2+1)
 |0,i,n,ok=>rfl
 |f+1,i,n,ok=>by
  rw [cntA,cntA,dg_sh,by_sh]
  split
  ·exact cnt_sh f _ _ _
  ·rfl
theorem count_sh (i:Nat):countA (x :: l) (i+1)=sh (countA l i):=by
 rw [countA,countA,dg_sh,cnt_sh,List.length_cons,Nat.add_sub_add_right]
 split<;>rfl
theorem unit_sh (lets:List UInt8) (b:Nat) (tm:Bool):∀ (f:Nat) (s:UnT) (i:Nat),unitA (x :: l) lets b tm f s (i+1)=sh (unitA l lets b tm f s i)
 |0,s,i=>rfl
 |f+1,s,i=>by
  rw [unitA,unitA,dg_sh,count_sh]
  split
  ·cases countA l i with
   |none=>rfl
   |some c=>
    simp only [sh,Option.map_some,Option.bind_some];rw [part_sh]
    have e:(if tm=true then sh (partA l c.2) else some (s.part,c.2+1))=sh (if tm=true then partA l c.2 else some (s.part,c.2)):=by split<;>rfl
    rw [e]
    cases (if tm=true then partA l c.2 else some (s.part,c.2)) with
    |none=>rfl
    |some p=>
     simp only [sh,Option.map_some,Option.bind_some];rw [wh_sh]
     cases whA l lets p.2 with
     |none=>rfl
     |some j=>
      simp only [Option.bind_some]
      split
      ·rfl
      ·exact unit_sh lets b tm f _ _
  ·rfl
theorem end_sh (had:Int) (room:Bool) (f:List Int) (i:Nat):endA (x :: l) had room f (i+1)=endA l had room f i:=by
 rw [endA,endA,List.length_cons];simp only [Nat.add_lt_add_iff_right]
theorem span_sign (hx:x=43\/x=45) (hl:oneA l [43,45] 0=false):spanA (x :: l)=spanA l:=by
 have h0:oneA (x :: l) [43,45] 0=true:=by rcases hx with rfl|rfl<;>rfl
 rw [spanA,spanA,h0,hl];simp only [if_true,Bool.false_eq_true,if_false];rw [show (1:Nat)=0+1 from rfl,one_sh,unit_sh]
 split
 ·cases unitA l [89,77,87,68] 0 false 8 ⟨-1,-1,true,[0,0,0,0,0,0,0,0]⟩ (0+1) with
  |none=>rfl
  |some y=>
   simp only [sh,Option.map_some,Option.bind_some];rw [one_sh,unit_sh,end_sh]
   split
   ·cases unitA l [72,77,83] 4 true 8 ⟨-1,-1,y.1.room,y.1.f⟩ (y.2+1) with
    |none=>rfl
    |some z=>
     simp only [sh,Option.map_some,Option.bind_some];rw [end_sh]
   ·rfl
 ·rfl
end
end Gr
end
end Go.Proofs.YtiiekaehbahenaaGreatDoor
