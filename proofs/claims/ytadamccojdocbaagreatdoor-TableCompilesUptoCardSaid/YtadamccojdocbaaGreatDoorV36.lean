/-
  Contracts of the code that the law reaches, and plain laws. Conditions: as each says.
-/
import Derived.Test.YtadamccojdocbaaGreatDoorV35
import Derived.Test.YtadamccojdocbaaGreatDoorRows
import Derived.Deep.Slices
import Derived.Deep.DeepHandedRow
import Derived.Shelf.Vars
import Derived.LaidLaws
set_option linter.all false
set_option maxHeartbeats 40000000
set_option maxRecDepth 100000
namespace Go.Proofs.YtadamccojdocbaaGreatDoor
open Lib (hid)
open Go.Proofs.Tryz
section
section
namespace Sam
open Go.RowKit Mem Img
theorem same14_any (x y:Table) (A A2 A' A2':Option Addr) (c c2 c' c2':Nat) (w:World) (hx:TabOk x A A2 w) (hy:TabOk y A' A2' w):
  Calls prog 14 #[.agg (tabCells x A c A2 c2),.agg (tabCells y A' c' A2' c2')] w fun e w'=>e= .returned (.bool (decide (x=y)))/\Below w.heap.size w w':=by
 obtain ⟨Q,hQ⟩:∃ Q,decide (x=y)=Q:=⟨_,rfl⟩;rw [hQ];simp only [tabCells]
 have hb2:=box2 w 33 33 #[.string x.name,.int .i64 x.first.off,.int .i64 x.first.save,.string x.first.abbr,.slice A x.shifts.length c,.int .i64 x.till,.slice A2 x.tail.length c2,.int .i64 x.off,.string x.format] #[.string y.name,.int .i64 y.first.off,.int .i64 y.first.save,.string y.first.abbr,.slice A' y.shifts.length c',.int .i64 y.till,.slice A2' y.tail.length c2',.int .i64 y.off,.string y.format]
 have HX:=hid hx;have HY:=hid hy;clear hx hy
 obtain ⟨W,hW⟩:∃ W,(w.alloc (.cells #[.string x.name,.int .i64 x.first.off,.int .i64 x.first.save,.string x.first.abbr,.slice A x.shifts.length c,.int .i64 x.till,.slice A2 x.tail.length c2,.int .i64 x.off,.string x.format] 33)).alloc (.cells #[.string y.name,.int .i64 y.first.off,.int .i64 y.first.save,.string y.first.abbr,.slice A' y.shifts.length c',.int .i64 y.till,.slice A2' y.tail.length c2',.int .i64 y.off,.string y.format] 33)=W:=⟨_,rfl⟩
 rw [hW] at hb2;obtain ⟨bx,by_,hbw,hz⟩:=hb2;have cx:=bx.cell;have cy:=by_.cell;have rsx:=hid (HX.out.below hbw).rs;have rtx:=hid (HX.out.below hbw).rt;have rsy:=hid (HY.out.below hbw).rs;have rty:=hid (HY.out.below hbw).rt;have HB:=hid hbw;have n1:=HX.out.ns;have n2:=HX.out.nt;have m1:=HY.out.ns;have m2:=HY.out.nt
 have hno:(decide (x.name=y.name) && (decide (x.first=y.first) && (decide (x.till=y.till) && (decide (x.off=y.off) && (decide (x.format=y.format) && (decide (((x.shifts.length:Nat):Int)=((y.shifts.length:Nat):Int)) && decide (((x.tail.length:Nat):Int)=((y.tail.length:Nat):Int))))))))=false->Q=false:=fun h=>by
  rw [<-hQ]
  refine decide_eq_false fun e=>?_
  subst e;simp at h
 have hyes:(decide (x.name=y.name) && (decide (x.first=y.first) && (decide (x.till=y.till) && (decide (x.off=y.off) && (decide (x.format=y.format) && (decide (((x.shifts.length:Nat):Int)=((y.shifts.length:Nat):Int)) && decide (((x.tail.length:Nat):Int)=((y.tail.length:Nat):Int))))))))=true->(((x.shifts.length:Nat):Int)=((y.shifts.length:Nat):Int)/\((x.tail.length:Nat):Int)=((y.tail.length:Nat):Int))/\(x.shifts=y.shifts/\x.tail=y.tail->Q=true)/\(¬ (x.shifts=y.shifts/\x.tail=y.tail)->Q=false):=fun h=>by
  simp only [Bool.and_eq_true,decide_eq_true_eq] at h;obtain ⟨h1,h2,h3,h4,h5,h6,h7⟩:=h
  refine ⟨⟨h6,h7⟩,fun ⟨h8,h9⟩=>?_,fun h=>?_⟩
  ·rw [<-hQ]
   refine decide_eq_true ?_
   cases x;cases y
   simp only at h1 h2 h3 h4 h5 h8 h9;subst h1 h2 h3 h4 h5 h8 h9
   rfl
  ·rw [<-hQ]
   exact decide_eq_false fun e=>h (by subst e;exact ⟨rfl,rfl⟩)
 have h1:=tl_beq x.name y.name
 have h2:=eq_phase x.first y.first
 simp only [Phase.cells] at h2;have h3:=int_beq x.till y.till;have h4:=int_beq x.off y.off;have h5:=tl_beq x.format y.format;have h6:=int_beq ((x.shifts.length:Nat):Int) ((y.shifts.length:Nat):Int);have h7:=int_beq ((x.tail.length:Nat):Int) ((y.tail.length:Nat):Int)
 have q3:∀ b,decide (x.till=y.till)=b->if b=true then x.till=y.till else ¬ x.till=y.till:=fun b hb=>by subst hb;by_cases e:x.till=y.till<;>simp [e]
 have q4:∀ b,decide (x.off=y.off)=b->if b=true then x.off=y.off else ¬ x.off=y.off:=fun b hb=>by subst hb;by_cases e:x.off=y.off<;>simp [e]
 have q3:=q3 _ rfl;have q4:=q4 _ rfl;clear bx by_ hbw hQ h3 h4;generalize decide (x.name=y.name)=d1 at*
 generalize decide (x.first=y.first)=d2 at*
 generalize decide (x.till=y.till)=d3 at*;generalize decide (x.off=y.off)=d4 at*;generalize decide (x.format=y.format)=d5 at*;generalize decide (((x.shifts.length:Nat):Int)=((y.shifts.length:Nat):Int))=d6 at*;generalize decide (((x.tail.length:Nat):Int)=((y.tail.length:Nat):Int))=d7 at*
 rcases bools7 d1 d2 d3 d4 d5 d6 d7 with rfl|⟨rfl,rfl⟩|⟨rfl,rfl,rfl⟩|⟨rfl,rfl,rfl,rfl⟩|⟨rfl,rfl,rfl,rfl,rfl⟩|⟨rfl,rfl,rfl,rfl,rfl,rfl⟩|⟨rfl,rfl,rfl,rfl,rfl,rfl,rfl⟩|⟨rfl,rfl,rfl,rfl,rfl,rfl,rfl⟩
 all_goals try simp only [if_true,Bool.false_eq_true,if_false] at q3 q4
 ·have hq:=hno rfl
  subst hq;clear hno hyes hz hW
  try have p6:=eq_of_beq h6
  go_enter func14,ntmps14
  go_wp2_with fail
  go_ret
  exact ⟨rfl,((Below.refl _ _).alloc (Nat.le_refl _) _).alloc (by simp) _⟩
 ·have hq:=hno rfl
  subst hq;clear hno hyes hz hW
  try have p6:=eq_of_beq h6
  go_enter func14,ntmps14
  go_wp2_with fail
  go_ret
  exact ⟨rfl,((Below.refl _ _).alloc (Nat.le_refl _) _).alloc (by simp) _⟩
 ·have hq:=hno rfl
  subst hq;clear hno hyes hz hW
  try have p6:=eq_of_beq h6
  go_enter func14,ntmps14
  go_wp2_with fail
  go_ret
  exact ⟨rfl,((Below.refl _ _).alloc (Nat.le_refl _) _).alloc (by simp) _⟩
 ·have hq:=hno rfl
  subst hq;clear hno hyes hz hW
  try have p6:=eq_of_beq h6
  go_enter func14,ntmps14
  go_wp2_with fail
  go_ret
  exact ⟨rfl,((Below.refl _ _).alloc (Nat.le_refl _) _).alloc (by simp) _⟩
 ·have hq:=hno rfl
  subst hq;clear hno hyes hz hW
  try have p6:=eq_of_beq h6
  go_enter func14,ntmps14
  go_wp2_with fail
  go_ret
  exact ⟨rfl,((Below.refl _ _).alloc (Nat.le_refl _) _).alloc (by simp) _⟩
 ·have hq:=hno rfl
  subst hq;clear hno hyes hz hW
  try have p6:=eq_of_beq h6
  go_enter func14,ntmps14
  go_wp2_with fail
  go_ret
  exact ⟨rfl,((Below.refl _ _).alloc (Nat.le_refl _) _).alloc (by simp) _⟩
 ·have hq:=hno rfl
  subst hq;clear hno hyes hz hW
  try have p6:=eq_of_beq h6
  go_enter func14,ntmps14
  go_wp2_with fail
  go_ret
  exact ⟨rfl,((Below.refl _ _).alloc (Nat.le_refl _) _).alloc (by simp) _⟩
 ·obtain ⟨⟨e6,e7⟩,y1,y2⟩:=hyes rfl
  rw [q3,q4] at hW;simp only [q3,q4] at cx;rw [q3,q4];clear q3 q4;have HY1:=hid y1;have HY2:=hid y2;have E6:=hid e6;have E7:=hid e7;clear y1 y2 hno hyes e6 e7;go_enter func14,ntmps14
  go_wp2_with fail
  go_loopw [5] (fun i wr=>∃ k n:Nat,k<=x.shifts.length/\i= .int .i64 k/\x.shifts.take k=y.shifts.take k/\wr=W.drewN n) (fun i _=>x.shifts.length - (intOf i).toNat)
  case atStart=>exact ⟨0,0,Nat.zero_le _,rfl,rfl,rfl⟩
  case round=>
   obtain ⟨k,n,hk,rfl,htk,rfl⟩:=hrel;have Htk:=hid htk;clear htk
   by_cases hkn:k<x.shifts.length
   ·have hkm:k<y.shifts.length:=by have:=E6.out;omega
    obtain ⟨ad,hA,_,a0,a1,a2,a3⟩:=shift_at rsx.out hkn;obtain ⟨ad',hA',_,b0,b1,b2,b3⟩:=shift_at rsy.out hkm;subst hA hA';have heq:=eq_shift x.shifts[k] y.shifts[k];have hst:=fun e=>take_eq hkn hkm Htk.out e;have hno:=fun e=>ne_of_get hkn hkm e;have HSt:=hid hst;have HNo:=hid hno;clear hst hno;simp only [Shift.cells] at heq;generalize x.shifts[k]=s at*;generalize y.shifts[k]=u at*
    by_cases e:s=u
    ·rw [decide_eq_true e] at heq
     have Ht2:=hid (HSt.out e);clear e HSt HNo
     go_wp2_with fail
     go_quiet (fail)
     go_wp2_with fail
     exact ⟨⟨k+1,n+nq,by omega,by go_num,Ht2.out,rfl⟩,by simp [intOf];omega⟩
    ·rw [decide_eq_false e] at heq
     have hq:=HY2.out (fun h=>HNo.out e h.1);have Hq:=hid hq;clear e HSt HNo hq
     go_wp2_with fail
     go_quiet (fail)
     go_wp2_with fail
     go_ret;have hq:=Hq.out;subst hq;exact ⟨rfl,below_drewN (below_drewN HB.out n) _⟩
   ·obtain rfl:k=x.shifts.length:=by omega
    obtain ⟨W2,hW2⟩:∃ W2,W2=W.drewN n:=⟨_,rfl⟩;have HB2:=hid (below_drewN HB.out n);have rtx2:=hid (rtx.out.drewN n);have rty2:=hid (rty.out.drewN n);have cx2:∀ i,(W.drewN n).cell? ⟨w.heap.size,i,none⟩=_:=cx;have cy2:∀ i,(W.drewN n).cell? ⟨w.heap.size+1,i,none⟩=_:=cy
    have hss:x.shifts=y.shifts:=by
     have:=Htk.out
     rw [List.take_of_length_le (Nat.le_refl _),List.take_of_length_le (by have:=E6.out;omega)] at this
     exact this
    have HSs:=hid hss;rw [<-hW2] at HB2 rtx2 rty2 cx2 cy2 ⊢;clear hW2 rtx rty rsx rsy HX HY cx cy hss Htk
    go_wp2_with fail
    go_loopw [6] (fun i wr=>∃ k n:Nat,k<=x.tail.length/\i= .int .i64 k/\x.tail.take k=y.tail.take k/\wr=W2.drewN n) (fun i _=>x.tail.length - (intOf i).toNat)
    case atStart=>exact ⟨0,0,Nat.zero_le _,rfl,rfl,rfl⟩
    case round=>
     obtain ⟨k,n,hk,rfl,htk,rfl⟩:=hrel;have Htk:=hid htk;clear htk
     by_cases hkn:k<x.tail.length
     ·have hkm:k<y.tail.length:=by have:=E7.out;omega
      obtain ⟨ad,hA,_,a0,a1,a2,a3,a4,a5,a6,a7,a8,a9,a10⟩:=Rul.rule_cells rtx2.out hkn;obtain ⟨ad',hA',_,b0,b1,b2,b3,b4,b5,b6,b7,b8,b9,b10⟩:=Rul.rule_cells rty2.out hkm;subst hA hA';have heq:=eq_rule x.tail[k] y.tail[k];have hst:=fun e=>take_eq hkn hkm Htk.out e;have hno:=fun e=>ne_of_get hkn hkm e;have HSt:=hid hst;have HNo:=hid hno;clear hst hno;simp only [Rule.cells] at heq;generalize x.tail[k]=s at*;generalize y.tail[k]=u at*
      by_cases e:s=u
      ·rw [decide_eq_true e] at heq
       have Ht2:=hid (HSt.out e);clear e HSt HNo
       go_wp2_with fail
       go_quiet (fail)
       go_wp2_with fail
       exact ⟨⟨k+1,n+nq,by omega,by go_num,Ht2.out,rfl⟩,by simp [intOf];omega⟩
      ·rw [decide_eq_false e] at heq
       have hq:=HY2.out (fun h=>HNo.out e h.2);have Hq:=hid hq;clear e HSt HNo hq
       go_wp2_with fail
       go_quiet (fail)
       go_wp2_with fail
       go_ret;have hq:=Hq.out;subst hq;exact ⟨rfl,below_drewN (below_drewN HB2.out n) _⟩
     ·obtain rfl:k=x.tail.length:=by omega
      have htt:x.tail=y.tail:=by
       have:=Htk.out
       rw [List.take_of_length_le (Nat.le_refl _),List.take_of_length_le (by have:=E7.out;omega)] at this
       exact this
      have hq:=HY1.out ⟨HSs.out,htt⟩;have Hq:=hid hq;clear hq htt
      go_wp2_with fail
      go_ret;have hq:=Hq.out;subst hq;exact ⟨rfl,below_drewN HB2.out n⟩
end Sam
end
end
section
section
namespace Opn
open Go.RowKit Go.WideShapes Go.ChangeShapes Mem
abbrev K:=Option (Option IntKind)
def kfits:K->Value->Prop
 |some (some k),v=>∃ n,v= .int k n/\(Lit.int k n).wf=true
 |some none,v=>∃ b,v= .bool b
 |none,v=>∃ s:ByteArray,v= .string s
def fits:List K->List Value->Prop
 |[],vs=>vs=[]
 |k :: ks,vs=>∃ v t,vs=v :: t/\kfits k v/\fits ks t
def letters:List Value->Nat
 |[]=>0
 | .string s :: t=>s.size+1+letters t
 |_ :: t=>1+letters t
theorem letters_len:∀ (vs:List Value),vs.length<=letters vs
 |[]=>Nat.le_refl _
 |v :: t=>by
  have:=letters_len t
  cases v<;>simp only [letters,List.length_cons]<;>omega
def kindsF (P:Program) (g:TypeId->Option (List K)):List Field->Nat->Option (List K)
 |[],_=>some []
 |f :: l,off=>if f.offset=off then (g f.type).bind fun ks=>if ks.length=P.cellsOf f.type then (kindsF P g l (off+ks.length)).map (ks++·) else none else none
def kinds (P:Program):Nat->TypeId->Option (List K)
 |0,_=>none
 |n+1,t=>match P.underlying t with
  |some .bool=>some [some none]
  |some (.int k)=>some [some (some k)]
  |some .string=>some [none]
  |some (.struct fs)=>(kindsF P (kinds P n) fs.toList 0).bind fun ks=>if ks.length=P.cellsOf t then some ks else none
  |_=>none
theorem fits_append:∀ {ks ks':List K} {vs vs':List Value},fits ks vs->fits ks' vs'->fits (ks++ks') (vs++vs')
 |[],_,_,_,h,h'=>by
  simp only [fits] at h;subst h;exact h'
 |_ :: ks,_,_,_,⟨v,t,e,h1,h2⟩,h'=>by
  subst e;exact ⟨v,t++_,rfl,h1,fits_append h2 h'⟩
theorem fits_length:∀ {ks:List K} {vs:List Value},fits ks vs->vs.length=ks.length
 |[],_,h=>by
  simp only [fits] at h;subst h
  rfl
 |_ :: ks,_,⟨v,t,e,_,h2⟩=>by
  subst e;simp [fits_length h2]
theorem letters_append:∀ (vs vs':List Value),letters (vs++vs')=letters vs+letters vs'
 |[],_=>by simp [letters]
 |v :: t,vs'=>by
  have ih:=letters_append t vs'
  cases v<;>simp only [letters,List.cons_append,ih]<;>omega
theorem one_le {H:Type} (d:DataW H):1<=Rows.uptoBulk d:=by
 cases d with
 |lit l=>cases l<;>simp [Rows.uptoBulk]
 |nil=>simp [Rows.uptoBulk]
 |ptr d=>simp [Rows.uptoBulk]
 |slice elems spare=>simp [Rows.uptoBulk]
 |agg parts=>simp [Rows.uptoBulk]
 |iface t d=>simp [Rows.uptoBulk]
 |map entries=>simp [Rows.uptoBulk]
 |held h=>simp [Rows.uptoBulk]
theorem part_le {H:Type} {d:DataW H} {l:List (DataW H)} (h:d∈l):Rows.uptoBulk d<=Rows.uptoBulkAll l:=by
 induction l with
 |nil=>cases h
 |cons x r ih=>
  simp only [Rows.uptoBulkAll]
  cases List.mem_cons.1 h with
  |inl e=>subst e;omega
  |inr e=>have:=ih e;omega
theorem all_le {H:Type} {k:Nat}:∀ (l:List (DataW H)),(∀ d∈l,k<=Rows.uptoBulk d)->l.length*k<=Rows.uptoBulkAll l
 |[],_=>by simp
 |d :: t,h=>by
  have h1:=h d (by simp)
  have h2:=all_le t fun x hx=>h x (by simp [hx])
  simp only [Rows.uptoBulkAll,List.length_cons,Nat.succ_mul];omega
section
variable {H:Type} {enc:TypeId×Value->H} {P:Program} {w w':World} {base:Nat} {sp:Nat->Bool} {held:Bool}
theorem fields_lem {cs:List Value} {m:Nat} (g:TypeId->Option (List K))
  (hg:∀ t ks cs x,g t=some ks->DataW.trod enc P w base sp held m t cs=some x->fits ks cs/\letters cs<=Rows.uptoBulk x.1/\x.2=[]):
  ∀ (l:List Field) (off:Nat) (ks:List K) (xs:List (DataW H×List MemPlace)),kindsF P g l off=some ks->xs.length=l.length->
   (∀ (i:Nat) (f:Field),l[i]?=some f->DataW.trod enc P w base sp held m f.type ((cs.drop f.offset).take (P.cellsOf f.type))=xs[i]?)->
   fits ks ((cs.drop off).take ks.length)/\letters ((cs.drop off).take ks.length)<=Rows.uptoBulkAll (xs.map (·.1))/\xs.flatMap (·.2)=[]
 |[],off,ks,xs,hk,hl,_=>by
  simp only [kindsF,Option.some.injEq] at hk;subst hk;obtain rfl:xs=[]:=List.length_eq_zero_iff.1 hl;simp [fits,letters]
 |f :: l,off,ks,[],_,hl,_=>by simp at hl
 |f :: l,off,ks,x :: xs,hk,hl,hf=>by
  unfold kindsF at hk
  split at hk
  ·next ho=>
   obtain ⟨k1,h1,hk⟩:=Option.bind_eq_some_iff.1 hk
   split at hk
   ·next hlen=>
    obtain ⟨k2,h2,rfl⟩:=Option.map_eq_some_iff.1 hk;have h0:=hf 0 f rfl;rw [ho,<-hlen] at h0;obtain ⟨a1,a2,a3⟩:=hg _ _ _ _ h1 h0
    obtain ⟨b1,b2,b3⟩:=fields_lem g hg l (off+k1.length) k2 xs h2 (by simpa using hl) fun i f' hf'=>hf (i+1) f' hf'
    have hcut:(cs.drop off).take (k1++k2).length=(cs.drop off).take k1.length++(cs.drop (off+k1.length)).take k2.length:=by
     rw [List.length_append,List.take_add,List.drop_drop]
    rw [hcut,letters_append]
    refine ⟨fits_append a1 b1,?_,?_⟩
    ·simp only [List.map_cons,Rows.uptoBulkAll]
     omega
    ·simp [a3,b3]
   ·cases hk
  ·cases hk
theorem kinds_trod:∀ (n:Nat) (t:TypeId) (ks:List K) (fuel:Nat) (cs:List Value) (x:DataW H×List MemPlace),kinds P n t=some ks->DataW.trod enc P w base sp held fuel t cs=some x->
  fits ks cs/\letters cs<=Rows.uptoBulk x.1/\x.2=[]
 |0,_,_,_,_,_,hk,_=>by simp [kinds] at hk
 |n+1,t,ks,fuel,cs,x,hk,h=>by
  unfold kinds at hk
  split at hk
  ·next hu=>
   obtain rfl:=Option.some.inj hk;obtain ⟨b,rfl,rfl⟩:=DataW.trod_bool hu h;simp [fits,kfits,letters,Rows.uptoBulk]
  ·next k hu=>
   obtain rfl:=Option.some.inj hk;obtain ⟨b,rfl,rfl,hw⟩:=DataW.trod_int hu h;simp [fits,kfits,letters,hw,Rows.uptoBulk]
  ·next hu=>
   obtain rfl:=Option.some.inj hk;obtain ⟨s,rfl,rfl,hw⟩:=DataW.trod_string hu h;simp [fits,kfits,letters,Rows.uptoBulk]
  ·next fs hu=>
   obtain ⟨ks',h1,h2⟩:=Option.bind_eq_some_iff.1 hk
   split at h2
   ·next hlen=>
    obtain rfl:=Option.some.inj h2;obtain ⟨xs,m,_,rfl,hl,hxs,hf⟩:=DataW.trod_struct hu h
    obtain ⟨a1,a2,a3⟩:=fields_lem (cs:=cs) (m:=m) (kinds P n) (fun t ks cs x hk h=>kinds_trod n t ks m cs x hk h) fs.toList 0 ks' xs h1 (by simpa using hxs) fun i f hi=>hf i f (by simpa using hi)
    rw [List.drop_zero,hlen,<-hl,List.take_length] at a1 a2
    refine ⟨a1,?_,a3⟩
    simp only [Rows.uptoBulk];omega
   ·cases h2
  ·cases hk
theorem flat_read {a:Addr} {C:Nat}:∀ (rows:List (List Value)) (i0:Nat),(∀ i r,rows[i]?=some r->∀ k u,r[k]?=some u->w.cell? (a.add ((i0+i)*C+k))=some u)->(∀ r∈rows,r.length=C)->
  ∀ j u,rows.flatten[j]?=some u->w.cell? (a.add (i0*C+j))=some u
 |[],_,_,_,j,u,h=>by simp at h
 |r :: t,i0,hr,hl,j,u,h=>by
  have hlen:r.length=C:=hl r (by simp)
  rw [List.flatten_cons] at h
  by_cases hj:j<C
  ·rw [List.getElem?_append_left (by omega)] at h
   have:=hr 0 r rfl j u h
   simpa using this
  ·rw [List.getElem?_append_right (by omega),hlen] at h
   have ih:=flat_read t (i0+1) (fun i r' hi k u' hk=>by
    have:=hr (i+1) r' (by simpa using hi) k u' hk
    rwa [show i0+(i+1)=i0+1+i by omega] at this) (fun r' hr'=>hl r' (by simp [hr'])) (j - C) u h
   rwa [show (i0+1)*C+(j - C)=i0*C+j by rw [Nat.succ_mul];omega] at ih
theorem flat_len {C:Nat}:∀ (rows:List (List Value)),(∀ r∈rows,r.length=C)->rows.flatten.length=rows.length*C
 |[],_=>by simp
 |r :: t,h=>by
  rw [List.flatten_cons,List.length_append,h r (by simp),flat_len t fun r' hr=>h r' (by simp [hr]),List.length_cons,Nat.succ_mul]
  omega
theorem open_rows {t e:TypeId} {C fuel B:Nat} {v:Value} {x:DataW H×List MemPlace} (ht:P.underlying t=some (.slice e)) (hC:P.cellsOf e=C) (hpos:0<C)
  (h:DataW.trod enc P w 0 (fun _=>true) held fuel t [v]=some x) (hlt:∀ p∈x.2,p.block<B):
  ∃ (A:Option Addr) (c:Nat) (rows:List (List Value)),v= .slice A rows.length c/\(∀ k:Nat,(∀ n r y,DataW.trod enc P w 0 (fun _=>true) held n e r=some y->k<=Rows.uptoBulk y.1)->rows.length*k<=Rows.uptoBulk x.1)/\Reads w B C A rows.length rows.flatten/\
   ∀ r∈rows,∃ n y,DataW.trod enc P w 0 (fun _=>true) held n e r=some y/\r.length=C/\Rows.uptoBulk y.1<=Rows.uptoBulk x.1/\∀ p∈y.2,p.block<B:=by
 rcases Go.Deep.open_slice ht h with ⟨hcs,rfl⟩|⟨a,len,cap,m,n,D,Pl,hcs,hb,hl,hm,hmm,rfl,hi⟩
 ·injection hcs with hcs
  subst hcs
  exact ⟨none,0,[],rfl,fun k _=>by simp,Reads.none_,by simp⟩
 ·injection hcs with hcs
  subst hcs;simp only [if_true] at hmm;subst hmm;have hch:∃ f:Nat->List Value,∀ i,i<m->w.cells? 0 (a.add (i*P.cellsOf e)) (P.cellsOf e)=some (f i)/\DataW.trod enc P w 0 (fun _=>true) held n e (f i)=some (D i,Pl i):=Go.Deep.choose_lt hi;obtain ⟨f,hf⟩:=hch;rw [hC] at hf
  have hrl:∀ r∈(List.range len).map f,r.length=C:=fun r hr=>by
   obtain ⟨i,hi',rfl⟩:=List.mem_map.1 hr
   exact (World.cells?_some (hf i (by have:=List.mem_range.1 hi';omega)).1).2.1
  have hll:((List.range len).map f).length=len:=by simp
  have hbulk:Rows.uptoBulkAll ((List.range len).map D)<=Rows.uptoBulk (DataW.slice ((List.range len).map D) ((List.range (m - len)).map fun j=>D (len+j))):=by
   simp only [Rows.uptoBulk];omega
  refine ⟨some a,m,(List.range len).map f,by rw [hll],?_,⟨by rw [flat_len _ hrl],fun h0=>?_⟩,fun r hr=>?_⟩
  ·intro k hk
   have:=all_le (k:=k) ((List.range len).map D) fun d hd=>by
    obtain ⟨i,hi',rfl⟩:=List.mem_map.1 hd
    exact hk n _ _ (hf i (by have:=List.mem_range.1 hi';omega)).2
   simp only [List.length_map,List.length_range] at this ⊢;exact Nat.le_trans this hbulk
  ·rw [hll] at h0
   refine ⟨a,rfl,?_,?_⟩
   ·have hp:MemPlace.cell a.block (a.off+0)∈MemPlace.row a (m*P.cellsOf e)++(List.range m).flatMap Pl:=by
     refine List.mem_append_left _ (List.mem_map.2 ⟨0,List.mem_range.2 (Nat.mul_pos (by omega) (by omega)),rfl⟩)
    exact hlt _ hp
   ·have:=flat_read (w:=w) (a:=a) (C:=C) ((List.range len).map f) 0 (fun i r hr k u hk=>by
     rw [List.getElem?_map] at hr
     obtain ⟨i',hi',rfl⟩:=Option.map_eq_some_iff.1 hr
     have hil:i<len:=by
      have:=(List.getElem?_eq_some_iff.1 hi').1
      simpa using this
     have e1:i'=i:=by
      have:=(List.getElem?_eq_some_iff.1 hi').2
      simpa using this.symm
     subst e1
     have hcc:=(World.cells?_some (hf i' (by omega)).1)
     have hk2:k<C:=by
      have:=(List.getElem?_eq_some_iff.1 hk).1
      omega
     have:=hcc.2.2 k hk2;rw [add_of_add] at this
     rw [Nat.zero_add,this,hk]) hrl
    intro j u hu;have:=this j u hu
    rwa [Nat.zero_mul,Nat.zero_add] at this
  ·obtain ⟨i,hi',rfl⟩:=List.mem_map.1 hr
   have hil:=List.mem_range.1 hi'
   obtain ⟨h1,h2⟩:=hf i (by omega)
   refine ⟨n,_,h2,(World.cells?_some h1).2.1,?_,fun p hp=>hlt p (List.mem_append_right _ (List.mem_flatMap.2 ⟨i,List.mem_range.2 (by omega),hp⟩))⟩
   have:Rows.uptoBulk (D i)<=Rows.uptoBulkAll ((List.range len).map D):=part_le (List.mem_map.2 ⟨i,hi',rfl⟩);exact Nat.le_trans this hbulk
theorem open_flat {t e:TypeId} {C fuel B:Nat} {ks:List K} {v:Value} {x:DataW H×List MemPlace} (k:Nat) (ht:P.underlying t=some (.slice e)) (hk:kinds P k e=some ks) (hC:P.cellsOf e=C) (hpos:0<C)
  (h:DataW.trod enc P w 0 (fun _=>true) held fuel t [v]=some x) (hlt:∀ p∈x.2,p.block<B):
  ∃ (A:Option Addr) (c:Nat) (rows:List (List Value)),v= .slice A rows.length c/\rows.length*ks.length<=Rows.uptoBulk x.1/\Reads w B C A rows.length rows.flatten/\
   ∀ r∈rows,fits ks r/\letters r<=Rows.uptoBulk x.1:=by
 obtain ⟨A,c,rows,h1,h2,h3,h4⟩:=open_rows ht hC hpos h hlt
 refine ⟨A,c,rows,h1,h2 ks.length fun n r y h=>?_,h3,fun r hr=>?_⟩
 ·obtain ⟨a1,a2,_⟩:=kinds_trod k e ks n r y hk h
  have:=letters_len r;have:=fits_length a1;omega
 obtain ⟨n,y,ha,_,hb,_⟩:=h4 r hr;obtain ⟨a1,a2,_⟩:=kinds_trod k e ks n r y hk ha
 exact ⟨a1,by omega⟩
end
theorem rows_of {α:Type} (f:α->List Value) (q:α->Prop):∀ (rows:List (List Value)),(∀ r∈rows,∃ a,r=f a/\q a)->∃ l:List α,rows.flatten=l.flatMap f/\rows.length=l.length/\∀ a∈l,q a
 |[],_=>⟨[],rfl,rfl,by simp⟩
 |r :: t,h=>by
  obtain ⟨a,rfl,ha⟩:=h r (by simp)
  obtain ⟨l,h1,h2,h3⟩:=rows_of f q t fun r' hr=>h r' (by simp [hr])
  refine ⟨a :: l,?_,by simp [h2],fun b hb=>?_⟩
  ·rw [List.flatten_cons,List.flatMap_cons,h1]
  ·rcases List.mem_cons.1 hb with rfl|hb
   ·exact ha
   ·exact h3 b hb
def plainT (P:Program):Nat->TypeId->Bool
 |0,_=>false
 |n+1,t=>match P.underlying t with
  |some .bool=>true
  |some (.int _)=>true
  |some .string=>true
  |some (.struct fs)=>fs.toList.all fun f=>plainT P n f.type
  |some (.slice e)=>decide (0<P.cellsOf e) && plainT P n e
  |_=>false
theorem mapM_of_get {α β:Type} (f:α->Option β):∀ (l:List α) (r:List β),r.length=l.length->(∀ (i:Nat) (x:α),l[i]?=some x->f x=r[i]?)->l.mapM f=some r
 |[],r,hl,_=>by
  obtain rfl:r=[]:=List.length_eq_zero_iff.1 hl
  rfl
 |a :: l,[],hl,_=>by simp at hl
 |a :: l,b :: r,hl,h=>by
  have h0:f a=some b:=h 0 a rfl
  have ih:=mapM_of_get f l r (by simpa using hl) fun i x hx=>h (i+1) x hx
  simp [List.mapM_cons,h0,ih]
section
variable {H:Type} {enc:TypeId×Value->H} {P:Program} {w w':World} {B:Nat} {sp:Nat->Bool} {held:Bool}
theorem cells_keep {base:Nat} {a:Addr} (hb:Below B w w') (ha:a.block<B) (n:Nat):w'.cells? base a n=w.cells? base a n:=by
 unfold World.cells?
 congr 1
 congr 1
 funext i
 exact hb.cell (by rw [block_of_add];exact ha)
theorem trod_keep (hb:Below B w w'):∀ (n:Nat) (t:TypeId) (fuel:Nat) (cs:List Value) (x:DataW H×List MemPlace),plainT P n t=true->DataW.trod enc P w 0 (fun _=>true) held fuel t cs=some x->
  (∀ p∈x.2,sp p.block=true/\p.block<B)->DataW.trod enc P w' 0 sp held fuel t cs=some x
 |0,_,_,_,_,hp,_,_=>by simp [plainT] at hp
 |n+1,t,fuel,cs,x,hp,h,hx=>by
  unfold plainT at hp
  split at hp
  ·next hu=>
   obtain ⟨b,rfl,rfl⟩:=DataW.trod_bool hu h
   cases fuel with
   |zero=>simp [DataW.trod] at h
   |succ m=>simp [DataW.trod,hu]
  ·next k hu=>
   obtain ⟨b,rfl,rfl,hw⟩:=DataW.trod_int hu h
   cases fuel with
   |zero=>simp [DataW.trod] at h
   |succ m=>simp [DataW.trod,hu,hw]
  ·next hu=>
   obtain ⟨s,rfl,rfl,hw⟩:=DataW.trod_string hu h
   cases fuel with
   |zero=>simp [DataW.trod] at h
   |succ m=>simp [DataW.trod,hu,hw]
  ·next fs hu=>
   obtain ⟨xs,m,rfl,rfl,hl,hxs,hf⟩:=DataW.trod_struct hu h
   refine trod_struct_mk hu hl (mapM_of_get _ _ _ (by simpa using hxs) fun i f hi=>?_)
   have hi':fs[i]?=some f:=by simpa using hi
   have h1:=hf i f hi'
   have hil:i<xs.length:=by
    have:=(Array.getElem?_eq_some_iff.1 hi').1
    omega
   rw [List.getElem?_eq_getElem hil] at h1 ⊢
   refine trod_keep hb n f.type m _ _ ?_ h1 fun p hpm=>hx p (List.mem_flatMap.2 ⟨xs[i],List.getElem_mem hil,hpm⟩)
   exact List.all_eq_true.1 hp f (List.mem_of_getElem? hi)
  ·next e hu=>
   simp only [Bool.and_eq_true,decide_eq_true_eq] at hp
   rcases DataW.trod_slice hu h with ⟨rfl,rfl⟩|⟨a,len,cap,elems,rest,m,rfl,rfl,rfl,hba,hl,hm,hlen,hel,hrs,_⟩
   ·cases fuel with
    |zero=>simp [DataW.trod] at h
    |succ m=>simp [DataW.trod,hu]
   ·obtain ⟨hr1,hr2⟩:=hrs rfl
    have hpl:0<cap->sp a.block=true/\a.block<B:=fun hc=>hx (.cell a.block (a.off+0)) (List.mem_append_left _ (List.mem_map.2 ⟨0,List.mem_range.2 (by rw [hlen,hr1];exact Nat.mul_pos (by omega) hp.1),rfl⟩))
    have one:∀ (i:Nat) (y:DataW H×List MemPlace),0<cap->y∈elems++rest->((w.cells? 0 (a.add (i*P.cellsOf e)) (P.cellsOf e)).bind (DataW.trod enc P w 0 (fun _=>true) held m e))=some y->
      ((w'.cells? 0 (a.add (i*P.cellsOf e)) (P.cellsOf e)).bind (DataW.trod enc P w' 0 sp held m e))=some y:=fun i y hc hy h1=>by
     obtain ⟨cs',h2,h3⟩:=Option.bind_eq_some_iff.1 h1
     rw [cells_keep hb (by rw [block_of_add];exact (hpl hc).2),h2,Option.bind_some]
     exact trod_keep hb n e m cs' y hp.2 h3 fun p hpm=>hx p (List.mem_append_right _ (List.mem_flatMap.2 ⟨y,hy,hpm⟩))
    have e1:(List.range len).mapM (fun i=>(w'.cells? 0 (a.add (i*P.cellsOf e)) (P.cellsOf e)).bind (DataW.trod enc P w' 0 sp held m e))=some elems:=by
     refine mapM_of_get _ _ _ (by simpa using hlen) fun i y hi=>?_
     have hil:i<len:=by
      have:=(List.getElem?_eq_some_iff.1 hi).1
      simpa using this
     have e2:y=i:=by
      have:=(List.getElem?_eq_some_iff.1 hi).2
      simpa using this.symm
     subst e2;have h1:=hel y hil
     rw [List.getElem?_eq_getElem (by omega)] at h1 ⊢
     exact one y _ (by omega) (List.mem_append_left _ (List.getElem_mem _)) h1
    have e2:(if sp a.block=true then (List.range (cap - len)).mapM (fun j=>(w'.cells? 0 (a.add ((len+j)*P.cellsOf e)) (P.cellsOf e)).bind (DataW.trod enc P w' 0 sp held m e)) else some [])=some rest:=by
     by_cases hc:0<cap
     ·rw [if_pos (hpl hc).1]
      refine mapM_of_get _ _ _ (by simpa using hr1) fun i y hi=>?_
      have hil:i<cap - len:=by
       have:=(List.getElem?_eq_some_iff.1 hi).1
       simpa using this
      have e2:y=i:=by
       have:=(List.getElem?_eq_some_iff.1 hi).2
       simpa using this.symm
      subst e2;have h1:=hr2 y hil
      rw [List.getElem?_eq_getElem (by omega)] at h1 ⊢
      exact one (len+y) _ hc (List.mem_append_right _ (List.getElem_mem _)) h1
     ·obtain rfl:rest=[]:=List.length_eq_zero_iff.1 (by omega)
      rw [show cap - len=0 by omega]
      split<;>rfl
    simp only [DataW.trod,hu];rw [if_pos ⟨Nat.zero_le _,hl,hm⟩,e1,Option.bind_some,e2,Option.map_some]
  ·cases hp
theorem all_keep (hb:Below B w w') (n:Nat):∀ (ts:List TypeId) (vs:List Value) (ds:List (DataW H)) (p:List MemPlace),ts.all (plainT P n)=true->DataW.TrodAll enc P w 0 (fun _=>true) held ts vs ds p->
  (∀ q∈p,sp q.block=true/\q.block<B)->DataW.TrodAll enc P w' 0 sp held ts vs ds p
 |[],[],[],_,_,h,_=>h
 |t :: ts,v :: vs,d :: ds,_,hp,⟨p,q,⟨fuel,h1⟩,h2,e⟩,hx=>by
  subst e;simp only [List.all_cons,Bool.and_eq_true] at hp;exact ⟨p,q,⟨fuel,trod_keep hb n t fuel _ _ hp.1 h1 fun r hr=>hx r (List.mem_append_left _ hr)⟩,all_keep hb n ts vs ds q hp.2 h2 fun r hr=>hx r (List.mem_append_right _ hr),rfl⟩
theorem post_true {f:Func} {s:ChangeSpec} {apart fresh handsOn again:Bool} {W W':World} {args:Array Value} {ds gs:List (DataW H)} {before:List MemPlace} {tb:TypeId}
  (hW:DataW.Whole enc P f.params.toList s.vars apart W args.toList ds gs before) (hs:s.vars=[]) (n:Nat) (hp:f.params.toList.all (plainT P n)=true)
  (hfn:(s.fn H (ds++gs))={ results:=[.lit (.bool true)],args:=ds }) (hr:f.resultTypes=#[tb]) (ht:P.underlying tb=some .bool) (hb:Below W.heap.size W W') (hk:Value.okWide P W' .any 0 tb (.bool true)):
  s.post enc P f apart fresh handsOn again W args (.bool true) W':=by
 have hlt:=fun p hp=>hW.lt p hp;obtain ⟨p,q,hA,hV,he,hfz,hnd⟩:=hW;rw [hs] at hV
 have hV2:q=[]/\gs=[]:=by
  cases gs with
  |nil=>exact ⟨hV,rfl⟩
  |cons a b=>exact absurd hV (by simp [DataW.TrodVars])
 obtain ⟨rfl,rfl⟩:=hV2
 have he2:before=p:=by simpa using he
 refine Post.post_of_below (pa:=p) (pv:=[]) ⟨p,[],hA,by rw [hs];exact hV,he,hfz,hnd⟩ (fun b sp hd=>?_) (fun sp hsp=>?_) (fun sp hsp=>?_) he hb ?_
 ·rw [hfn,hr]
  exact trodAll_cons_mk (shut_bool ht _) trodAll_mk0
 ·rw [hfn]
  exact all_keep hb n _ _ _ _ hp hA fun r hr=>⟨hsp r (by rw [he2];exact hr),hlt r (by rw [he2];exact hr)⟩
 ·rw [hfn,hs]
  exact rfl
 ·rw [hr]
  intro j t r h1 h2
  have hj:j=0:=by
   have:=(Array.getElem?_eq_some_iff.1 h1).1
   simpa using this
  subst hj
  have e1:tb=t:=by simpa using h1
  have e2:Value.bool true=r:=by simpa [Value.resultList] using h2
  subst e1;subst e2;exact hk
end
end Opn
namespace Opn
open Go.RowKit Go.WideShapes Go.ChangeShapes Mem Img
theorem in64_of {n:Int} (h:(Lit.int .i64 n).wf=true):In64 n:=by
 simp [Lit.wf,IntKind.min,IntKind.max,IntKind.signed,IntKind.bits] at h;unfold In64;omega
theorem rule_kinds:kinds prog 4 69=some [none,some (some .i64),some (some .i64),some (some .i64),some (some .i64),some (some .i64),some (some .i64),some (some .i64),some (some .i64),some (some .i64),none]:=by kernel_rfl
theorem rule_of {r:List Value} {M:Nat} (h:fits [none,some (some .i64),some (some .i64),some (some .i64),some (some .i64),some (some .i64),some (some .i64),some (some .i64),some (some .i64),some (some .i64),none] r) (hM:letters r<=M) (hM2:M<=1048576):
  ∃ s:Rule,r=s.cells/\s.name.size<=2097152/\s.letter.size<=2097152:=by
 obtain ⟨_,_,rfl,⟨n,rfl⟩,_,_,rfl,⟨a1,rfl,w1⟩,_,_,rfl,⟨a2,rfl,w2⟩,_,_,rfl,⟨a3,rfl,w3⟩,_,_,rfl,⟨a4,rfl,w4⟩,_,_,rfl,⟨a5,rfl,w5⟩,h⟩:=h;obtain ⟨_,_,rfl,⟨a6,rfl,w6⟩,_,_,rfl,⟨a7,rfl,w7⟩,_,_,rfl,⟨a8,rfl,w8⟩,_,_,rfl,⟨a9,rfl,w9⟩,_,_,rfl,⟨s,rfl⟩,h⟩:=h;simp only [fits] at h;subst h;simp only [letters] at hM
 exact ⟨⟨n,a1,a2,a3,a4,a5,a6,a7,a8,a9,s⟩,rfl,by show n.size<=_;omega,by show s.size<=_;omega⟩
theorem cells_rule:prog.cellsOf 69=11:=by kernel_rfl
theorem cells_string:prog.cellsOf 9=1:=by kernel_rfl
theorem cells_rules:prog.cellsOf 22=1:=by kernel_rfl
end Opn
end
end
section
section
namespace Opn
open Go.RowKit Go.WideShapes Go.ChangeShapes Mem Img Mom Rul Src
theorem size_tl {H:Type} (s:ByteArray):Rows.uptoBulk (DataW.lit (H:=H) (.string s.data.toList))=s.size+1:=by simp [Rows.uptoBulk]
theorem era_kinds:kinds prog 4 84=some [some (some .i64),some (some .i64),some (some .i64),none,none,some none,some (some .i64),some (some .i64),some (some .i64),some (some .i64),some (some .i64),some (some .i64),some (some .i64)]:=by kernel_rfl
theorem era_of {r:List Value} {M:Nat} (h:fits [some (some .i64),some (some .i64),some (some .i64),none,none,some none,some (some .i64),some (some .i64),some (some .i64),some (some .i64),some (some .i64),some (some .i64),some (some .i64)] r) (hM:letters r<=M) (hM2:M<=1048576):
  ∃ s:Era,r=s.cells/\s.rules.size<=2097152/\s.format.size<=2097152:=by
 obtain ⟨_,_,rfl,⟨a0,rfl,w0⟩,_,_,rfl,⟨a1,rfl,w1⟩,_,_,rfl,⟨a2,rfl,w2⟩,_,_,rfl,⟨s3,rfl⟩,_,_,rfl,⟨s4,rfl⟩,_,_,rfl,⟨b5,rfl⟩,h⟩:=h;obtain ⟨_,_,rfl,⟨a6,rfl,w6⟩,_,_,rfl,⟨a7,rfl,w7⟩,_,_,rfl,⟨a8,rfl,w8⟩,_,_,rfl,⟨a9,rfl,w9⟩,_,_,rfl,⟨a10,rfl,w10⟩,_,_,rfl,⟨a11,rfl,w11⟩,_,_,rfl,⟨a12,rfl,w12⟩,h⟩:=h;simp only [fits] at h;subst h;simp only [letters] at hM
 exact ⟨⟨a0,a1,a2,s3,s4,b5,a6,⟨a7,a8,a9,a10,a11,a12⟩⟩,rfl,by show s3.size<=_;omega,by show s4.size<=_;omega⟩
theorem link_kinds:kinds prog 4 170=some [none,none]:=by kernel_rfl
theorem link_of {r:List Value} {M:Nat} (h:fits [none,none] r) (hM:letters r<=M) (hM2:M<=1048576):∃ s:Link,r=s.cells/\s.target.size<=2097152/\s.name.size<=2097152:=by
 obtain ⟨_,_,rfl,⟨a,rfl⟩,_,_,rfl,⟨b,rfl⟩,h⟩:=h;simp only [fits] at h;subst h;simp only [letters] at hM
 exact ⟨⟨a,b⟩,rfl,by show a.size<=_;omega,by show b.size<=_;omega⟩
theorem cells_source:prog.cellsOf 26=3:=by kernel_rfl
theorem cells_zone:prog.cellsOf 65=2:=by kernel_rfl
theorem cells_era:prog.cellsOf 84=13:=by kernel_rfl
theorem cells_link:prog.cellsOf 170=2:=by kernel_rfl
theorem cells_zones:prog.cellsOf 23=1:=by kernel_rfl
theorem cells_links:prog.cellsOf 24=1:=by kernel_rfl
theorem cells_eras:prog.cellsOf 63=1:=by kernel_rfl
theorem list3 {l:List Value} (h:l.length=3):∃ a b c,l=[a,b,c]:=by
 match l,h with
 |[a,b,c],_=>exact ⟨a,b,c,rfl⟩
theorem list2 {l:List Value} (h:l.length=2):∃ a b,l=[a,b]:=by
 match l,h with
 |[a,b],_=>exact ⟨a,b,rfl⟩
section
variable {H:Type} {enc:TypeId×Value->H} {W:World}
theorem zone_bulk {r:List Value} {n:Nat} {y:DataW H×List MemPlace} (h:DataW.trod enc prog W 0 (fun _=>true) true n 65 r=some y):2<=Rows.uptoBulk y.1:=by
 obtain ⟨xs,n,_,hx,_,hlen,hf⟩:=DataW.trod_struct underlying65 h
 match xs,hlen with
 |[y0,y1],_=>
  obtain ⟨y1',y2'⟩:=y;simp only [Prod.mk.injEq,List.map_cons,List.map_nil,List.flatMap_cons,List.flatMap_nil] at hx;obtain ⟨rfl,rfl⟩:=hx;have:=one_le y0.1;simp only [Rows.uptoBulk,Rows.uptoBulkAll];omega
theorem zone_of {r:List Value} {n:Nat} {y:DataW H×List MemPlace} (h:DataW.trod enc prog W 0 (fun _=>true) true n 65 r=some y) (hr:r.length=2) (hlt:∀ p∈y.2,p.block<W.heap.size) (hb:Rows.uptoBulk y.1<=1048576):
  ∃ z:ZoneM,r=z.cells/\Reads W W.heap.size 13 z.A z.eras.length (z.eras.flatMap Era.cells)/\z.eras.length<=1000000/\z.name.size<=2097152/\∀ e∈z.eras,e.rules.size<=2097152/\e.format.size<=2097152:=by
 obtain ⟨v0,v1,rfl⟩:=list2 hr;obtain ⟨xs,n,_,hx,_,hlen,hf⟩:=DataW.trod_struct underlying65 h
 match xs,hlen with
 |[y0,y1],_=>
  obtain ⟨y1',y2'⟩:=y;simp only [Prod.mk.injEq,List.map_cons,List.map_nil,List.flatMap_cons,List.flatMap_nil] at hx;obtain ⟨rfl,rfl⟩:=hx;simp only [Rows.uptoBulk,Rows.uptoBulkAll] at hb
  have f0:DataW.trod enc prog W 0 (fun _=>true) true n 9 [v0]=some y0:=by
   have h1:=hf 0 _ rfl
   change DataW.trod enc prog W 0 (fun _=>true) true n 9 ((List.drop 0 [v0,v1]).take (prog.cellsOf 9))=some y0 at h1
   rw [cells_string] at h1;exact h1
  have f1:DataW.trod enc prog W 0 (fun _=>true) true n 63 [v1]=some y1:=by
   have h1:=hf 1 _ rfl
   change DataW.trod enc prog W 0 (fun _=>true) true n 63 ((List.drop 1 [v0,v1]).take (prog.cellsOf 63))=some y1 at h1
   rw [cells_eras] at h1;exact h1
  clear hf;obtain ⟨name,e0,rfl,_⟩:=DataW.trod_string underlying9 f0
  obtain ⟨A,c,rows,rfl,n2,r2,q2⟩:=open_flat 4 underlying63 era_kinds cells_era (by decide) f1 (B:=W.heap.size) fun q hq=>hlt q (by simp [hq])
  obtain ⟨es,g1,g2,g3⟩:=rows_of Era.cells (fun s=>s.rules.size<=2097152/\s.format.size<=2097152) rows fun r hr=>era_of (q2 r hr).1 (q2 r hr).2 (by omega)
  simp only [List.cons.injEq,and_true] at e0;subst e0;rw [g1,g2] at r2;simp only [size_tl] at hb;simp only [List.length_cons,List.length_nil,g2] at n2
  exact ⟨⟨name,es,A,c⟩,by rw [g2];rfl,r2,by show es.length<=_;omega,by show name.size<=_;omega,g3⟩
theorem open_source {r:Reach} {b0:Nat} {v:Value} {d:DataW H} {p:List MemPlace} (hval:Value.okWide prog W r b0 26 v)
  (h:DataW.Trod enc prog W 0 (fun _=>true) true 26 v d p) (hlt:∀ q∈p,q.block<W.heap.size) (hb:Rows.uptoBulk d<=1048576):
  ∃ (s:Src) (A A2 A3:Option Addr) (c c2 c3:Nat),v= .agg #[.slice A s.rules.length c,.slice A2 s.zones.length c2,.slice A3 s.links.length c3]/\SrcOk s A A2 A3 W:=by
 obtain ⟨cs,rfl,hsz⟩:=okWide_struct underlying26 hval;obtain ⟨fuel,h⟩:=h;obtain ⟨l⟩:=cs;rw [cells_source] at hsz;obtain ⟨v0,v1,v2,rfl⟩:=list3 hsz;obtain ⟨xs,n,_,hx,_,hlen,hf⟩:=DataW.trod_struct underlying26 h
 match xs,hlen with
 |[y0,y1,y2],_=>
  simp only [Prod.mk.injEq,List.map_cons,List.map_nil,List.flatMap_cons,List.flatMap_nil] at hx;obtain ⟨rfl,rfl⟩:=hx;simp only [Rows.uptoBulk,Rows.uptoBulkAll] at hb
  have f0:DataW.trod enc prog W 0 (fun _=>true) true n 22 [v0]=some y0:=by
   have h1:=hf 0 _ rfl
   change DataW.trod enc prog W 0 (fun _=>true) true n 22 ((List.drop 0 [v0,v1,v2]).take (prog.cellsOf 22))=some y0 at h1
   rw [cells_rules] at h1;exact h1
  have f1:DataW.trod enc prog W 0 (fun _=>true) true n 23 [v1]=some y1:=by
   have h1:=hf 1 _ rfl
   change DataW.trod enc prog W 0 (fun _=>true) true n 23 ((List.drop 1 [v0,v1,v2]).take (prog.cellsOf 23))=some y1 at h1
   rw [cells_zones] at h1;exact h1
  have f2:DataW.trod enc prog W 0 (fun _=>true) true n 24 [v2]=some y2:=by
   have h1:=hf 2 _ rfl
   change DataW.trod enc prog W 0 (fun _=>true) true n 24 ((List.drop 2 [v0,v1,v2]).take (prog.cellsOf 24))=some y2 at h1
   rw [cells_links] at h1;exact h1
  clear hf
  obtain ⟨A,c,rows,rfl,n0,r0,q0⟩:=open_flat 4 underlying22 rule_kinds cells_rule (by decide) f0 (B:=W.heap.size) fun q hq=>hlt q (by simp [hq])
  obtain ⟨rs,g1,g2,g3⟩:=rows_of Rule.cells (fun s=>s.name.size<=2097152/\s.letter.size<=2097152) rows fun r hr=>rule_of (q0 r hr).1 (q0 r hr).2 (by omega)
  obtain ⟨A2,c2,rows2,rfl,n1,r1,q1⟩:=open_rows underlying23 cells_zone (by decide) f1 (B:=W.heap.size) fun q hq=>hlt q (by simp [hq])
  obtain ⟨zs,g4,g5,g6⟩:=rows_of ZoneM.cells (fun z=>Reads W W.heap.size 13 z.A z.eras.length (z.eras.flatMap Era.cells)/\z.eras.length<=1000000/\z.name.size<=2097152/\∀ e∈z.eras,e.rules.size<=2097152/\e.format.size<=2097152) rows2 fun r hr=>by
   obtain ⟨n,y,k1,k2,k3,k4⟩:=q1 r hr
   exact zone_of k1 k2 k4 (by omega)
  obtain ⟨A3,c3,rows3,rfl,n2,r2,q2⟩:=open_flat 4 underlying24 link_kinds cells_link (by decide) f2 (B:=W.heap.size) fun q hq=>hlt q (by simp [hq])
  obtain ⟨ls,g7,g8,g9⟩:=rows_of Link.cells (fun s=>s.target.size<=2097152/\s.name.size<=2097152) rows3 fun r hr=>link_of (q2 r hr).1 (q2 r hr).2 (by omega)
  have n1':=n1 2 fun n r y h=>zone_bulk h;rw [g1,g2] at r0;rw [g4,g5] at r1;rw [g7,g8] at r2;simp only [List.length_cons,List.length_nil,g2,g5,g8] at n0 n1' n2
  exact ⟨⟨rs,zs,ls⟩,A,A2,A3,c,c2,c3,by rw [g2,g5,g8],r0,r1,r2,fun z hz=>(g6 z hz).1,by show rs.length<=_;omega,by show zs.length<=_;omega,by show ls.length<=_;omega,fun z hz=>(g6 z hz).2.1,g3,fun z hz=>(g6 z hz).2.2.1,fun z hz=>(g6 z hz).2.2.2,g9⟩
end
end Opn
end
end
section
section
namespace Wit
open Go.RowKit
theorem maxLen_cell {W:World} (h:W.ShapedOpen prog):∃ m,W.cell? ⟨0,0,none⟩=some (.int .i64 m):=
 cell_of_shapedOpen_int (g:=0) (t:=3) (zero:=#[.int .i64 0]) h (of_decide_eq_true (by kernel_rfl)) (by kernel_rfl) rfl (by kernel_rfl) (by kernel_rfl) underlying3
def firstC:Array Value:=(Go.Pinned.utf8FirstZ.map fun (n:Nat)=>Value.int .u8 n).toArray
def rangesC:Array Value:=#[.int .u8 128,.int .u8 191,.int .u8 160,.int .u8 191,.int .u8 128,.int .u8 159,.int .u8 144,.int .u8 191,.int .u8 128,.int .u8 143,.int .u8 0,.int .u8 0,.int .u8 0,.int .u8 0,.int .u8 0,.int .u8 0,
 .int .u8 0,.int .u8 0,.int .u8 0,.int .u8 0,.int .u8 0,.int .u8 0,.int .u8 0,.int .u8 0,.int .u8 0,.int .u8 0,.int .u8 0,.int .u8 0,.int .u8 0,.int .u8 0,.int .u8 0,.int .u8 0]
def recell (cs:Array Value):Obj->Obj
 | .cells _ t frozen=> .cells cs t frozen
 |o=>o
noncomputable def laidWorld (os:Os):World:=
 { World.holding prog os ⟨#[],#[],[]⟩ with heap:=((World.holding prog os ⟨#[],#[],[]⟩).heap.modify 1 (recell firstC)).modify 2 (recell rangesC) }
theorem own:ownKnob prog.godebug=none:=by kernel_rfl
end Wit
end
end
end Go.Proofs.YtadamccojdocbaaGreatDoor
