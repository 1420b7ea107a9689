/-
  Contracts of the code that the law reaches, and plain laws. Conditions: as each says.
-/
import Derived.Test.YtmlejgdohcpmjaaGreatDoorV20
set_option linter.all false
set_option maxHeartbeats 40000000
set_option maxRecDepth 100000
namespace Go.Proofs.YtmlejgdohcpmjaaGreatDoor
section
section
namespace Cmq
open Go.RowKit Mem Civ Mom Img Rul Ahd Trn Src Snd Att Rgt Abr
def savE (rs:List Rule) (x:Era) (t:Int):Int×ByteArray:=
 if x.kind=2 then forceP (setOf rs x) x.off t else if x.kind=1 then (x.save,⟨#[]⟩) else (0,⟨#[]⟩)
def phaseE (rs:List Rule) (x:Era) (t:Int):Phase:=
 ⟨x.off+(savE rs x t).1,(savE rs x t).1,abbrB x.format (savE rs x t).2 (x.off+(savE rs x t).1) (savE rs x t).1⟩
def lastPh (first:Phase):List Shift->Phase
 |[]=>first
 |[s]=>s.ph
 |_ :: s :: ss=>lastPh first (s :: ss)
def cutAt (at_:Int) (ss:List Shift):List Shift:=match ss.getLast? with
 |some s=>if s.sec=at_ then ss.dropLast else ss
 |none=>ss
def putP (first:Phase) (till:Int) (m:List Shift×Bool) (at_:Int) (p:Phase):List Shift×Bool:=
 if till<=at_\/p=lastPh first (cutAt at_ m.1) then (cutAt at_ m.1,m.2)
 else if m.2=true\/(cutAt at_ m.1).length=30000 then (cutAt at_ m.1,true)
 else (cutAt at_ m.1++[⟨at_,p⟩],m.2)
end Cmq
end
end
section
section
namespace Cmq
open Go.RowKit Mem Civ Mom Img Rul Ahd Trn Src Snd Att Rgt Abr
def tellL (first:Phase) (ss:List Shift) (t:Int):Phase:=ss.foldl (fun p s=>if s.sec<=t then s.ph else p) first
def Diff:Phase->List Shift->Prop
 |_,[]=>True
 |p,s :: ss=>s.ph≠p/\Diff s.ph ss
structure Gd (first:Phase) (till a:Int) (ss:List Shift):Prop where
 rise:ss.Pairwise fun x y=>x.sec<y.sec
 upto:∀ s∈ss,s.sec<=a
 till:∀ s∈ss,s.sec<till
 diff:Diff first ss
theorem tell_snoc (first:Phase) (ss:List Shift) (s:Shift) (t:Int):tellL first (ss++[s]) t=if s.sec<=t then s.ph else tellL first ss t:=by
 unfold tellL;rw [List.foldl_append]
 rfl
theorem lastPh_snoc' (first:Phase):∀ (l:List Shift) (s:Shift),lastPh first (l++[s])=s.ph
 |[],s=>rfl
 |[a],s=>rfl
 |a :: b :: l,s=>by
  have:=lastPh_snoc' first (b :: l) s
  simpa [lastPh] using this
theorem tell_late {first:Phase} {ss:List Shift} {t:Int} (h:∀ s∈ss,s.sec<=t):tellL first ss t=lastPh first ss:=by
 rcases List.eq_nil_or_concat ss with rfl|⟨l,s,rfl⟩
 ·rfl
 ·rw [List.concat_eq_append,lastPh_snoc',tell_snoc,if_pos (h s (by simp))]
theorem diff_snoc {s:Shift}:∀ {ss:List Shift} {first:Phase},Diff first (ss++[s])↔Diff first ss/\s.ph≠lastPh first ss
 |[],first=>by simp [Diff,lastPh]
 |[a],first=>by simp [Diff,lastPh]
 |a :: b :: ss,first=>by
  have ih:=@diff_snoc s (b :: ss) a.ph
  show a.ph≠first/\Diff a.ph ((b :: ss)++[s])↔_
  rw [ih]
  have:lastPh first (a :: b :: ss)=lastPh a.ph (b :: ss):=by
   show lastPh first (b :: ss)=lastPh a.ph (b :: ss)
   have:∀ (l:List Shift) (p q:Phase) (c:Shift),lastPh p (c :: l)=lastPh q (c :: l):=by
    intro l
    induction l with
    |nil=>intro p q c;rfl
    |cons d l ih=>intro p q c;exact ih p q d
   exact this ss _ _ b
  rw [this];simp only [Diff]
  constructor
  ·rintro ⟨h1,h2,h3⟩;exact ⟨⟨h1,h2⟩,h3⟩
  ·rintro ⟨⟨h1,h2⟩,h3⟩;exact ⟨h1,h2,h3⟩
theorem gd_nil (first:Phase) (till a:Int):Gd first till a []:=⟨List.Pairwise.nil,fun _ h=>by simp at h,fun _ h=>by simp at h,trivial⟩
theorem Gd.mono {first:Phase} {till a b:Int} {ss:List Shift} (h:Gd first till a ss) (hab:a<=b):Gd first till b ss:=⟨h.rise,fun s hs=>Int.le_trans (h.upto s hs) hab,h.till,h.diff⟩
theorem gd_init {first:Phase} {till a:Int} {l:List Shift} {s:Shift} (h:Gd first till a (l++[s])):Gd first till a l/\(∀ x∈l,x.sec<s.sec):=by
 have h1:=List.pairwise_append.1 h.rise
 exact ⟨⟨h1.1,fun x hx=>h.upto x (by simp [hx]),fun x hx=>h.till x (by simp [hx]),(diff_snoc.1 h.diff).1⟩,fun x hx=>h1.2.2 x hx s (by simp)⟩
theorem put_spec {first:Phase} {till a at_:Int} {p:Phase} {ss:List Shift} (h:Gd first till a ss) (ha:a<=at_) (hn:ss.length<30000):
  (putP first till (ss,false) at_ p).2=false/\Gd first till at_ (putP first till (ss,false) at_ p).1/\(putP first till (ss,false) at_ p).1.length<=ss.length+1/\
  (∀ t,t<till->tellL first (putP first till (ss,false) at_ p).1 t=if at_<=t then p else tellL first ss t)/\
  (till<=at_->putP first till (ss,false) at_ p=(ss,false)):=by
 have hc:Gd first till at_ (cutAt at_ ss)/\(cutAt at_ ss).length<=ss.length/\(∀ x∈cutAt at_ ss,x.sec<at_)/\(∀ t,t<at_->tellL first (cutAt at_ ss) t=tellL first ss t)/\(till<=at_->cutAt at_ ss=ss):=by
  rcases List.eq_nil_or_concat ss with rfl|⟨l,s,rfl⟩
  ·exact ⟨gd_nil _ _ _,Nat.le_refl _,fun _ h=>by simp [cutAt] at h,fun _ _=>rfl,fun _=>rfl⟩
  ·rw [List.concat_eq_append] at h hn ⊢
   obtain ⟨h1,h2⟩:=gd_init h
   have hs:=h.upto s (by simp)
   have hst:=h.till s (by simp)
   unfold cutAt
   rw [List.getLast?_concat]
   simp only [List.dropLast_concat]
   by_cases he:s.sec=at_
   ·rw [if_pos he]
    refine ⟨h1.mono ha,by simp,fun x hx=>by have:=h2 x hx;omega,fun t ht=>?_,fun ht=>by omega⟩
    rw [tell_snoc,if_neg (by omega)]
   ·rw [if_neg he]
    refine ⟨h.mono ha,Nat.le_refl _,fun x hx=>?_,fun t ht=>rfl,fun _=>rfl⟩
    rcases List.mem_append.1 hx with hx|hx
    ·have:=h2 x hx;omega
    ·have:x=s:=by simpa using hx
     subst this;omega
 obtain ⟨c1,c2,c3,c4,c5⟩:=hc
 have clast:∀ t,at_<=t->tellL first (cutAt at_ ss) t=lastPh first (cutAt at_ ss):=fun t ht=>tell_late fun x hx=>by have:=c3 x hx;omega
 unfold putP
 by_cases h1:till<=at_\/p=lastPh first (cutAt at_ ss)
 ·rw [if_pos h1]
  refine ⟨rfl,c1,Nat.le_trans c2 (Nat.le_succ _),fun t ht=>?_,fun ht=>by rw [c5 ht]⟩
  by_cases hat:at_<=t
  ·rw [if_pos hat]
   rcases h1 with h1|h1
   ·omega
   ·show tellL first (cutAt at_ ss) t=p
    rw [clast t hat,h1]
  ·rw [if_neg hat]
   exact c4 t (by omega)
 ·rw [if_neg h1,if_neg (by simp;omega)]
  have h2:¬ till<=at_:=fun h=>h1 (.inl h)
  refine ⟨rfl,⟨?_,fun x hx=>?_,fun x hx=>?_,diff_snoc.2 ⟨c1.diff,fun h=>h1 (.inr h)⟩⟩,by rw [List.length_append];simp;omega,fun t ht=>?_,fun ht=>absurd ht h2⟩
  ·rw [List.pairwise_append]
   exact ⟨c1.rise,List.pairwise_singleton _ _,fun x hx y hy=>by have:y=⟨at_,p⟩:=by simpa using hy
                                                                subst this;exact c3 x hx⟩
  ·rcases List.mem_append.1 hx with hx|hx
   ·have:=c3 x hx;omega
   ·have:x=⟨at_,p⟩:=by simpa using hx
    subst this;exact Int.le_refl _
  ·rcases List.mem_append.1 hx with hx|hx
   ·exact c1.till x hx
   ·have:x=⟨at_,p⟩:=by simpa using hx
    subst this;show at_<till;omega
  ·show tellL first (cutAt at_ ss++[⟨at_,p⟩]) t=_
   rw [tell_snoc]
   by_cases hat:at_<=t
   ·rw [if_pos hat,if_pos hat]
   ·rw [if_neg hat,if_neg hat]
    exact c4 t (by omega)
end Cmq
end
end
end Go.Proofs.YtmlejgdohcpmjaaGreatDoor
