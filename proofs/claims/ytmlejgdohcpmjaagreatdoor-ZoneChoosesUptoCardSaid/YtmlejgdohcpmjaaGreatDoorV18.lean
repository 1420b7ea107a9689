/-
  Contracts of the code that the law reaches, and plain laws. Conditions: as each says.
-/
import Derived.Test.YtmlejgdohcpmjaaGreatDoorV17
set_option linter.all false
set_option maxHeartbeats 40000000
set_option maxRecDepth 100000
namespace Go.Proofs.YtmlejgdohcpmjaaGreatDoor
open Tryz
section
namespace Snd
open Go.RowKit Mem Civ Mom Img Plc Rul Src Go.Maps Go.Sort
theorem one_enc {x:List UInt8}:∀ u∈(#[encStr x]:Array Value).toList,u.oneCell'=true:=by intro u hu;simp at hu;subst hu;rfl
theorem bool_any (v:Value) (y:DataW Unit×List MemPlace) (_:plainElem (H:=Unit) prog 4 v=some y):∃ c:Value,v=id c:=⟨v,rfl⟩
theorem str_inv (key:Value) (kl:Lit) (h:keyOf prog 9 key=some kl):∃ x,key=encStr x:=by
 obtain ⟨x,hx,_⟩:=Maps.keyOf_str underlying9 h;exact ⟨x,hx⟩
theorem own_n {w:World} {base size n n':Nat} {e:TypeId} {v:Value} {xs:List Value} (h:w.ownsRow base e size v n xs) (he:n'=n):w.ownsRow base e size v n' xs:=by subst he;exact h
def NamesP (w:World) (l:List ByteArray) (e:Ending) (w':World):Prop:=
 ∃ (v:Value) (ts:List (List UInt8)),e= .returned v/\w'.ownsRow w.heap.size 9 1 v ts.length (ts.map encStr)/\ts.Pairwise (·<=·)/\ts.Nodup/\(∀ x,x∈ts↔x∈keyL l)/\Below w.heap.size w w'
theorem sorted_of {D:DataW Unit} {left:Lit->Bool} {ss ks:List (List UInt8)} (hc:Collected D left ss) (hl:∀ kl,left kl=false) (hs:SM ks D):
  (ss.mergeSort fun x y=>decide (x<=y)).Pairwise (·<=·)/\(ss.mergeSort fun x y=>decide (x<=y)).Nodup/\∀ x,x∈(ss.mergeSort fun x y=>decide (x<=y))↔x∈ks:=by
 have hp:=List.mergeSort_perm ss fun x y=>decide (x<=y)
 refine ⟨?_,hp.nodup_iff.2 hc.1,fun x=>?_⟩
 ·have h:=List.pairwise_mergeSort (le:=fun x y:List UInt8=>decide (x<=y)) (fun a b c h1 h2=>by simp only [decide_eq_true_eq] at *;exact List.le_trans h1 h2) (fun a b=>by simp only [Bool.or_eq_true,decide_eq_true_eq];exact List.le_total a b) ss
  exact h.imp fun h=>by simpa using h
 ·rw [hp.mem_iff,hc.2 x,hl,(hs.2 x).1]
  simp
end Snd
namespace Snd
open Go.RowKit Mem Civ Mom Img Plc Rul Src Go.Maps Go.Sort
theorem ltB_is (a b:ByteArray):ltB a b=decide (a.data.toList<b.data.toList):=by
 unfold ltB;rw [Go.Proofs.bytesLess_eq,ByteArray.toList_eq,ByteArray.toList_eq]
theorem keyL_put (nm:ByteArray):∀ (l:List ByteArray) (x:List UInt8),x∈keyL (putL nm l)↔x=nm.data.toList\/x∈keyL l
 |[],x=>by simp [keyL,putL]
 |a :: t,x=>by
  have ih:=keyL_put nm t x;unfold putL
  split
  ·simp only [keyL,List.map_cons,List.mem_cons] at ih ⊢
   rw [ih]
   constructor
   ·rintro (h|h|h)
    ·exact .inr (.inl h)
    ·exact .inl h
    ·exact .inr (.inr h)
   ·rintro (h|h|h)
    ·exact .inr (.inl h)
    ·exact .inl h
    ·exact .inr (.inr h)
  ·split
   ·next h=>
    have e:a.data.toList=nm.data.toList:=by
     rw [ByteArray.toList_eq,ByteArray.toList_eq] at h
     simpa using h
    simp only [keyL,List.map_cons,List.mem_cons]
    constructor
    ·intro h;exact .inr h
    ·rintro (h|h)
     ·exact .inl (by rw [h,e])
     ·exact h
   ·simp [keyL]
theorem put_sorted (nm:ByteArray):∀ (l:List ByteArray),(keyL l).Pairwise (·<·)->(keyL (putL nm l)).Pairwise (·<·)
 |[],_=>by simp [keyL,putL]
 |a :: t,h=>by
  have h':=h;simp only [keyL,List.map_cons,List.pairwise_cons] at h;obtain ⟨h1,h2⟩:=h;have ih:=put_sorted nm t h2;unfold putL
  split
  ·next hlt=>
   rw [ltB_is] at hlt
   have hlt':a.data.toList<nm.data.toList:=by simpa using hlt
   show (a.data.toList :: keyL (putL nm t)).Pairwise (·<·)
   refine List.pairwise_cons.2 ⟨fun y hy=>?_,ih⟩
   rcases (keyL_put nm t y).1 hy with rfl|hy
   ·exact hlt'
   ·exact h1 y hy
  ·next hlt=>
   split
   ·exact h'
   ·next hne=>
    have hn:¬ a.data.toList<nm.data.toList:=by
     rw [ltB_is] at hlt
     simpa using hlt
    have hne':a.data.toList≠nm.data.toList:=by
     rw [ByteArray.toList_eq,ByteArray.toList_eq] at hne
     simpa using hne
    have hgt:nm.data.toList<a.data.toList:=by
     have hle:nm.data.toList<=a.data.toList:=hn
     rcases Decidable.em (nm.data.toList<a.data.toList) with h|h
     ·exact h
     ·exact absurd (List.le_antisymm (show a.data.toList<=nm.data.toList from h) hle) hne'
    show (nm.data.toList :: keyL (a :: t)).Pairwise (·<·)
    refine List.pairwise_cons.2 ⟨fun y hy=>?_,h'⟩
    simp only [keyL,List.map_cons,List.mem_cons] at hy
    rcases hy with rfl|hy
    ·exact hgt
    ·exact List.lt_trans hgt (h1 y hy)
theorem names_sorted (ns:List ByteArray):(keyL (namesL ns)).Pairwise (·<·)/\∀ x,x∈keyL (namesL ns)↔x∈keyL ns:=by
 suffices h:∀ (ns:List ByteArray),(keyL (namesL ns.reverse)).Pairwise (·<·)/\∀ x,x∈keyL (namesL ns.reverse)↔x∈keyL ns by
  have:=h ns.reverse;rw [List.reverse_reverse] at this
  refine ⟨this.1,fun x=>?_⟩
  rw [this.2 x];simp [keyL]
 intro ns
 induction ns with
 |nil=>simp [namesL,keyL]
 |cons a t ih=>
  rw [List.reverse_cons,namesL_snoc]
  refine ⟨put_sorted a _ ih.1,fun x=>?_⟩
  rw [keyL_put,ih.2 x];simp [keyL]
theorem names_one {ts:List (List UInt8)} {ns:List ByteArray} (h1:ts.Pairwise (·<=·)) (h2:ts.Nodup) (h3:∀ x,x∈ts↔x∈keyL ns):ts=keyL (namesL ns):=by
 obtain ⟨k1,k2⟩:=names_sorted ns
 have hnd:(keyL (namesL ns)).Nodup:=k1.imp fun h e=>by subst e;exact List.lt_irrefl _ h
 have hp:ts.Perm (keyL (namesL ns)):=(List.perm_ext_iff_of_nodup h2 hnd).2 fun x=>by rw [h3 x,k2 x]
 have hm:=mergeSort_of_perm hp
 have s1:ts.mergeSort leB=ts:=List.mergeSort_of_pairwise (h1.imp fun h=>by simpa using h)
 have s2:(keyL (namesL ns)).mergeSort leB=keyL (namesL ns):=List.mergeSort_of_pairwise (k1.imp fun h=>by simpa using List.le_of_lt h)
 rw [s1,s2] at hm;exact hm
theorem enc_txs (l:List ByteArray):(keyL l).map encStr=txs l:=by
 unfold keyL txs;rw [List.map_map]
 refine List.map_congr_left fun s _=>?_
 show Value.string ⟨s.data.toList.toArray⟩= .string s
 cases s;simp
theorem namesP_is {w w':World} {ns:List ByteArray} {e:Ending} (h:NamesP w ns e w'):∃ v,e= .returned v/\w'.ownsRow w.heap.size 9 1 v (namesL ns).length (txs (namesL ns))/\Below w.heap.size w w':=by
 obtain ⟨v,ts,he,hown,h1,h2,h3,hb⟩:=h;have e:=names_one h1 h2 h3;subst e;rw [enc_txs] at hown
 refine ⟨v,he,?_,hb⟩
 have hl:(keyL (namesL ns)).length=(namesL ns).length:=by simp [keyL]
 exact own_n hown hl.symm
end Snd
namespace Snd
open Go.RowKit Mem Civ Mom Img Plc Rul Src
def LightP (s:Src):Prop:=s.rules.length<=60/\s.zones.length<=60/\s.links.length<=200
end Snd
namespace Snd
open Go.RowKit Mem Civ Mom Img Plc Rul Src Go.Maps
structure Flaw where
 err:Int
 kind:Int
 at_:Int
 era:Int
 deriving DecidableEq
def Flaw.cells (f:Flaw):List Value:=[.int .i64 f.err,.int .i64 f.kind,.int .i64 f.at_,.int .i64 f.era]
def noFlaw:Flaw:=⟨0,0,0,0⟩
def flawAt (e k:Int) (o:Option Nat):Flaw:=match o with
 |some i=>⟨e,k,i,0⟩
 |none=>noFlaw
def ordersB (s:Src):Flaw:=flawAt 16 1 (s.rules.findIdx? fun r=>decide (r.hi<r.lo))
end Snd
namespace Snd
open Go.RowKit Mem Civ Mom Img Plc Rul Src Go.Maps
def dupL (seen:List ByteArray):List Link->Nat->Option Nat
 |[],_=>none
 |x :: t,i=>if inL seen x.name=true then some i else dupL (seen++[x.name]) t (i+1)
def linksB (s:Src):Flaw:=flawAt 10 3 (dupL (s.zones.map (·.name)) s.links 0)
end Snd
namespace Snd
open Go.RowKit Mem Civ Mom Img Plc Rul Src Go.Maps
def targetsB (s:Src):Flaw:=match s.links.findIdx? fun l=> !inL (allNames s) l.target with
 |some i=>⟨8,3,i,0⟩
 |none=>flawAt 16 3 (s.links.findIdx? fun l=> !(resolveB s l.name).isSome)
end Snd
end
end Go.Proofs.YtmlejgdohcpmjaaGreatDoor
