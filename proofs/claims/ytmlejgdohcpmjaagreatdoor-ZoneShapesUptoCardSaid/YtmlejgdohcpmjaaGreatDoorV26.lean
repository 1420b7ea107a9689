/-
  Contracts of the code that the law reaches, and plain laws. Conditions: as each says.
-/
import Derived.Test.YtmlejgdohcpmjaaGreatDoorV25
set_option linter.all false
set_option maxHeartbeats 40000000
set_option maxRecDepth 100000
namespace Go.Proofs.YtmlejgdohcpmjaaGreatDoor
open Tryz
section
section
namespace Zon
open Go.RowKit Mem Civ Mom Img Plc Rul Ahd Trn Src Snd Att Rgt Abr Sch Cmq
def NextR (x:Table) (t:Int) (o:Option Int):Prop:=
 (∀ s,o=some s->t<s/\Sh x s)/\(∀ u,t<u->u<=t+200000->(∀ s,o=some s->u<s)->¬ Sh x u)
structure Str where
 frm:Int
 upto:Int
 ends:Bool
 off:Int
def StrOk (x:Table) (s:Str):Prop:=s.off=offT x s.frm/\∃ o,NextR x s.frm o/\s.upto=o.getD 0/\s.ends=o.isSome
inductive Chain (x:Table) (t0 hi:Int):List Str->Int->Prop
 |nil:Chain x t0 hi [] t0
 |snoc {l:List Str} {t:Int} {s:Str}:Chain x t0 hi l t->s.frm=t->StrOk x s->s.ends=true->s.upto<=hi->Chain x t0 hi (l++[s]) s.upto
structure Shp where
 kind:Int
 at_:Int
 ahead:Int
 behind:Int
 deriving DecidableEq
def Shp.cells (g:Shp):List Value:=[.int .i64 g.kind,.int .i64 g.at_,.int .i64 g.ahead,.int .i64 g.behind]
def noShp:Shp:=⟨0,0,0,0⟩
structure St where
 out:List Int
 gap:Shp
 ahead:Int
 first:Bool
def st0:St:=⟨[],noShp,0,true⟩
def gapS (loc:Int) (st:St) (s:Str):Shp:=if st.first=false/\st.gap.kind=0/\s.frm+st.ahead<=loc/\loc<s.frm+s.off then ⟨1,s.frm,st.ahead,s.off⟩ else st.gap
def outS (loc:Int) (st:St) (s:Str):List Int:=if s.frm<=loc - s.off/\(s.ends=false\/loc - s.off<s.upto) then st.out++[loc - s.off] else st.out
def stepS (loc:Int) (st:St) (s:Str):St:=⟨outS loc st s,gapS loc st s,s.off,false⟩
def GapAt (x:Table) (loc T:Int):Prop:=T+offT x (T - 1)<=loc/\loc<T+offT x T
instance (x:Table) (loc T:Int):Decidable (GapAt x loc T):=by unfold GapAt;infer_instance
theorem GapAt.sh {x:Table} {loc T:Int} (h:GapAt x loc T):Sh x T:=fun e=>by
 have:offT x T=offT x (T - 1):=by unfold offT;rw [e]
 unfold GapAt at h;omega
def FirstGap (x:Table) (loc T:Int):Prop:=GapAt x loc T/\∀ T',T'<T->¬ GapAt x loc T'
structure Inv (x:Table) (loc:Int) (st:St) (cur:Int):Prop where
 srt:st.out.Pairwise (·<·)
 mem:∀ t,t∈st.out↔loc - 86400<=t/\t<cur/\t+offT x t=loc
 gap:(st.gap=noShp/\∀ T,loc - 86400<T->T<cur->¬ GapAt x loc T)\/
  (∃ T,loc - 86400<T/\T<cur/\GapAt x loc T/\(∀ T',loc - 86400<T'->T'<T->¬ GapAt x loc T')/\st.gap=⟨1,T,offT x (T - 1),offT x T⟩)
 fst:st.first=decide (cur=loc - 86400)
 ahd:cur≠loc - 86400->st.ahead=offT x (cur - 1)
theorem inv_start (x:Table) (loc:Int):Inv x loc st0 (loc - 86400) where
 srt:=List.Pairwise.nil
 mem:=fun t=>by simp only [st0,List.not_mem_nil,false_iff];omega
 gap:= .inl ⟨rfl,fun T h1 h2=>by omega⟩
 fst:=by simp [st0]
 ahd:=fun h=>absurd rfl h
def stopOf (loc:Int) (s:Str):Int:=if s.ends=true/\s.upto<=loc+86400 then s.upto else loc+86401
theorem str_flat {x:Table} {loc:Int} {s:Str} (ho:StrOk x s) (h1:loc - 86400<=s.frm) (h2:s.frm<=loc+86400):
  s.frm<stopOf loc s/\stopOf loc s<=loc+86401/\(∀ u,s.frm<u->u<stopOf loc s->¬ Sh x u)/\(∀ u,s.frm<=u->u<stopOf loc s->offT x u=s.off):=by
 obtain ⟨e,o,⟨n1,n2⟩,t1,t2⟩:=ho
 have hno:∀ u,s.frm<u->u<stopOf loc s->¬ Sh x u:=by
  intro u hu1 hu2;unfold stopOf at hu2
  refine n2 u hu1 (by split at hu2<;>omega) fun v hv=>?_
  subst hv;simp only [Option.getD_some,Option.isSome_some] at t1 t2;rw [t1,t2] at hu2
  split at hu2
  ·exact hu2
  ·next hc=>
   have:¬ v<=loc+86400:=fun h=>hc ⟨rfl,h⟩;omega
 have hlt:s.frm<stopOf loc s:=by
  unfold stopOf
  split
  ·next hc=>
   cases o with
   |none=>rw [t2] at hc;simp at hc
   |some v=>simp only [Option.getD_some] at t1;have:=(n1 v rfl).1;omega
  ·omega
 refine ⟨hlt,by unfold stopOf;split<;>omega,hno,fun u hu1 hu2=>?_⟩
 unfold offT at e ⊢
 rw [e,tell_flat hu1 fun v hv1 hv2=>hno v hv1 (by omega)]
theorem inv_step {x:Table} (hr:rightB x (tailB x)=true) {loc:Int} {st:St} {s:Str} (h:Inv x loc st s.frm) (ho:StrOk x s) (h1:loc - 86400<=s.frm) (h2:s.frm<=loc+86400):
  Inv x loc (stepS loc st s) (stopOf loc s):=by
 obtain ⟨f1,f2,f3,f4⟩:=str_flat ho h1 h2
 have hob: -86400<s.off/\s.off<86400:=by have:=off_bd hr s.frm;rw [f4 s.frm (by omega) f1] at this;exact this
 have hin:∀ t,s.frm<=t->t<stopOf loc s->(t+offT x t=loc↔t=loc - s.off):=fun t a b=>by rw [f4 t a b];omega
 have hc1:(s.frm<=loc - s.off/\(s.ends=false\/loc - s.off<s.upto))↔(s.frm<=loc - s.off/\loc - s.off<stopOf loc s):=by
  unfold stopOf
  cases hs:s.ends
  ·simp;omega
  ·simp;intro _;constructor
   ·intro h3;split<;>omega
   ·intro h3;split at h3<;>omega
 refine ⟨?_,?_,?_,?_,?_⟩
 ·show (outS loc st s).Pairwise _
  unfold outS
  split
  ·refine List.pairwise_append.2 ⟨h.srt,List.pairwise_singleton _ _,fun a ha b hb=>?_⟩
   rw [List.mem_singleton.1 hb];have:=((h.mem a).1 ha).2.1;omega
  ·exact h.srt
 ·intro t
  show t∈outS loc st s↔_
  have hold:=h.mem t;have hin':=hin t
  have key:t∈outS loc st s↔t∈st.out\/(t=loc - s.off/\s.frm<=loc - s.off/\loc - s.off<stopOf loc s):=by
   unfold outS
   by_cases hc:s.frm<=loc - s.off/\(s.ends=false\/loc - s.off<s.upto)
   ·have:=hc1.1 hc
    rw [if_pos hc,List.mem_append,List.mem_singleton]
    constructor
    ·rintro (a|a)
     ·exact .inl a
     ·exact .inr ⟨a,this⟩
    ·rintro (a|a)
     ·exact .inl a
     ·exact .inr a.1
   ·have h9:¬ (s.frm<=loc - s.off/\loc - s.off<stopOf loc s):=fun h3=>hc (hc1.2 h3)
    rw [if_neg hc];exact ⟨.inl,fun a=>a.elim id fun b=>absurd b.2 h9⟩
  rw [key,hold]
  constructor
  ·rintro (⟨a,b,c⟩|⟨a,b,c⟩)
   ·exact ⟨a,by omega,c⟩
   ·exact ⟨by omega,by omega,(hin' (by omega) (by omega)).2 a⟩
  ·rintro ⟨a,b,c⟩
   by_cases hlt:t<s.frm
   ·exact .inl ⟨a,hlt,c⟩
   ·have:=(hin' (by omega) b).1 c
    exact .inr ⟨this,by omega,by omega⟩
 ·show (gapS loc st s=noShp/\_)\/_
  have hnew:∀ T,s.frm<T->T<stopOf loc s->¬ GapAt x loc T:=fun T a b hg=>f3 T a b hg.sh
  have hat:s.frm≠loc - 86400->(GapAt x loc s.frm↔(s.frm+st.ahead<=loc/\loc<s.frm+s.off)):=fun hne=>by
   unfold GapAt
   rw [h.ahd hne,f4 s.frm (by omega) f1]
  rcases h.gap with ⟨g1,g2⟩|⟨T,g1,g2,g3,g4,g5⟩
  ·by_cases hc:s.frm≠loc - 86400/\GapAt x loc s.frm
   ·refine .inr ⟨s.frm,by omega,f1,hc.2,g2,?_⟩
    show gapS loc st s=_
    unfold gapS;have hq:=(hat hc.1).1 hc.2
    rw [if_pos ⟨by rw [h.fst];exact decide_eq_false hc.1,by rw [g1];rfl,hq.1,hq.2⟩,h.ahd hc.1,f4 s.frm (by omega) f1]
   ·refine .inl ⟨?_,fun T a b=>?_⟩
    ·unfold gapS
     rw [if_neg,g1];rintro ⟨a,_,b,c⟩;rw [h.fst,decide_eq_false_iff_not] at a;exact hc ⟨a,(hat a).2 ⟨b,c⟩⟩
    ·rcases (by omega:T<s.frm\/T=s.frm\/s.frm<T) with q|q|q
     ·exact g2 T a q
     ·rw [q];exact fun hg=>hc ⟨by omega,hg⟩
     ·exact hnew T q b
  ·refine .inr ⟨T,g1,by omega,g3,g4,?_⟩
   show gapS loc st s=_
   unfold gapS;rw [if_neg,g5];rintro ⟨_,a,_⟩;rw [g5] at a;simp at a
 ·show false=_
  rw [eq_comm,decide_eq_false_iff_not];omega
 ·intro _
  show s.off=_
  rw [f4 (stopOf loc s - 1) (by omega) (by omega)]
theorem chain_inv {x:Table} (hr:rightB x (tailB x)=true) {loc:Int} {l:List Str} {t:Int} (h:Chain x (loc - 86400) (loc+86400) l t):loc - 86400<=t/\t<=loc+86400/\Inv x loc (l.foldl (stepS loc) st0) t:=by
 induction h with
 |nil=>exact ⟨by omega,by omega,inv_start x loc⟩
 |@snoc l t s hc e ho he hle ih=>
  obtain ⟨i1,i2,i3⟩:=ih;subst e;have hi:=inv_step hr i3 ho i1 i2
  have hst:stopOf loc s=s.upto:=by unfold stopOf;rw [if_pos ⟨he,hle⟩]
  have:=(str_flat ho i1 i2).1;rw [hst] at hi this
  refine ⟨by omega,hle,?_⟩
  rw [List.foldl_append];exact hi
def AroundR (x:Table) (loc:Int) (out:List Int) (g:Shp):Prop:=
 out.Pairwise (·<·)/\(∀ t,t∈out↔t+offT x t=loc)/\((g=noShp/\∀ T,¬ GapAt x loc T)\/∃ T,FirstGap x loc T/\g=⟨1,T,offT x (T - 1),offT x T⟩)
theorem gap_in {x:Table} (hr:rightB x (tailB x)=true) {loc T:Int} (h:GapAt x loc T):loc - 86400<T/\T<loc+86400:=by
 have h1:=off_bd hr (T - 1);have h2:=off_bd hr T;unfold GapAt at h;omega
theorem around_is {x:Table} (hr:rightB x (tailB x)=true) {loc:Int} {l:List Str} {s:Str} (hc:Chain x (loc - 86400) (loc+86400) l s.frm) (ho:StrOk x s) (hl:s.ends=false\/loc+86400<s.upto):
  AroundR x loc ((l++[s]).foldl (stepS loc) st0).out ((l++[s]).foldl (stepS loc) st0).gap:=by
 obtain ⟨i1,i2,i3⟩:=chain_inv hr hc;have hi:=inv_step hr i3 ho i1 i2
 have hst:stopOf loc s=loc+86401:=by
  unfold stopOf;rw [if_neg];rintro ⟨a,b⟩
  rcases hl with h|h
  ·rw [h] at a;cases a
  ·omega
 rw [hst] at hi;rw [List.foldl_append]
 refine ⟨hi.srt,fun t=>?_,?_⟩
 ·refine (hi.mem t).trans ⟨fun h=>h.2.2,fun h=>?_⟩
  have:=off_bd hr t
  exact ⟨by omega,by omega,h⟩
 ·rcases hi.gap with ⟨g1,g2⟩|⟨T,g1,g2,g3,g4,g5⟩
  ·exact .inl ⟨g1,fun T hg=>g2 T (gap_in hr hg).1 (by have:=gap_in hr hg;omega) hg⟩
  ·exact .inr ⟨T,⟨g3,fun T' hT hg=>g4 T' (gap_in hr hg).1 hT hg⟩,g5⟩
theorem gap_there {x:Table} (hr:rightB x (tailB x)=true) {loc:Int} (h:∀ t,t+offT x t≠loc):∃ T,GapAt x loc T:=by
 have key:∀ n:Nat,(loc - 86400+n)+offT x (loc - 86400+n)<loc\/∃ T,GapAt x loc T:=by
  intro n
  induction n with
  |zero=>have:=off_bd hr (loc - 86400+(0:Nat));exact .inl (by omega)
  |succ n ih=>
   rcases ih with ih|ih
   ·by_cases hc:(loc - 86400+(n+1:Nat))+offT x (loc - 86400+(n+1:Nat))<loc
    ·exact .inl hc
    ·have hne:=h (loc - 86400+(n+1:Nat))
     refine .inr ⟨loc - 86400+(n+1:Nat),?_,by omega⟩
     rw [show loc - 86400+((n+1:Nat):Int) - 1=loc - 86400+n from by omega]
     omega
   ·exact .inr ih
 rcases key 172800 with h1|h1
 ·have:=off_bd hr (loc - 86400+(172800:Nat))
  omega
 ·exact h1
theorem rise_same:∀ {l m:List Int},l.Pairwise (·<·)->m.Pairwise (·<·)->(∀ t,t∈l↔t∈m)->l=m
 |[],[],_,_,_=>rfl
 |[],b :: m,_,_,h=>absurd ((h b).2 List.mem_cons_self) (by simp)
 |a :: l,[],_,_,h=>absurd ((h a).1 List.mem_cons_self) (by simp)
 |a :: l,b :: m,h1,h2,h=>by
  rw [List.pairwise_cons] at h1 h2
  have hab:a=b:=by
   rcases List.mem_cons.1 ((h a).1 List.mem_cons_self) with e|e
   ·exact e
   ·rcases List.mem_cons.1 ((h b).2 List.mem_cons_self) with e2|e2
    ·exact e2.symm
    ·have:=h2.1 a e;have:=h1.1 b e2;omega
  subst hab
  rw [rise_same h1.2 h2.2 fun t=>⟨fun ht=>?_,fun ht=>?_⟩]
  ·rcases List.mem_cons.1 ((h t).1 (List.mem_cons_of_mem _ ht)) with e|e
   ·have:=h1.1 t ht;omega
   ·exact e
  ·rcases List.mem_cons.1 ((h t).2 (List.mem_cons_of_mem _ ht)) with e|e
   ·have:=h2.1 t ht;omega
   ·exact e
end Zon
end
end
section
section
namespace Sam
open Go.RowKit Mem Img
theorem tl_inj (a b:ByteArray):a.toList=b.toList↔a=b:=by
 constructor
 ·intro e
  by_cases h:a=b
  ·exact h
  ·rw [ByteArray.toList_eq,ByteArray.toList_eq] at e
   exact absurd (by obtain ⟨x⟩:=a;obtain ⟨y⟩:=b;simp at e;rw [e]) h
 ·rintro rfl;rfl
theorem eq_shift (a b:Shift) (w:World):(Op.equalIn 10000 53 (.agg a.cells.toArray) (.agg b.cells.toArray)).run prog w= .ok (decide (a=b)) w:=by
 obtain ⟨a1,a2,a3,a4⟩:=a;obtain ⟨b1,b2,b3,b4⟩:=b;simp [Shift.cells,go_sem,tl_inj]
 repeat (split;skip)
 all_goals simp_all
theorem below_dr {B:Nat} {a w:World} {n:Nat} (h:Below B a w):Below B a (w.drewN n):=⟨h.os,h.tape,h.output,h.size,h.block⟩
theorem eq_phase (a b:Phase) (w:World):(Op.equalIn 10000 23 (.agg a.cells.toArray) (.agg b.cells.toArray)).run prog w= .ok (decide (a=b)) w:=by
 obtain ⟨a1,a2,a3⟩:=a;obtain ⟨b1,b2,b3⟩:=b;simp [Phase.cells,go_sem,tl_inj]
 repeat (split;skip)
 all_goals simp_all
theorem tl_beq (a b:ByteArray):(a.toList == b.toList)=decide (a=b):=by
 rw [Bool.eq_iff_iff];simp [tl_inj]
end Sam
end
end
end Go.Proofs.YtmlejgdohcpmjaaGreatDoor
