/-
  Contracts of the code that the law reaches, and plain laws. Conditions: as each says.
-/
import Derived.Test.YtiiekaehbahenaaGreatDoorV07
import Derived.Test.YtiiekaehbahenaaGreatDoorV08
import Derived.Lib.IndexMore
import Derived.Lib.Fold
set_option linter.all false
set_option maxHeartbeats 40000000
set_option maxRecDepth 100000
namespace Go.Proofs.YtiiekaehbahenaaGreatDoor
open Lib (hid)
open Tryz
section
section
namespace Gr
open Go.RowKit Mem
structure NoteT where
 key:Txt
 value:Txt
 sharp:Bool
def notesA (nm vl:Txt->Bool) (l:Txt):Nat->Nat->Bool->Txt->List NoteT->Option ((Txt×List NoteT)×Nat)
 |0,_,_,_,_=>none
 |f+1,i,first,zone,out=>if oneA l [91] i=true then
   (braA l i).bind fun b=>
    if (!(Lib.cut b.1.1 [61]).2.2 && (first && nm b.1.1))=true then notesA nm vl l f b.2 false b.1.1 out
    else if ((Lib.cut b.1.1 [61]).2.2 && (keyB (Lib.cut b.1.1 [61]).1 && vl (Lib.cut b.1.1 [61]).2.1))=true then
     notesA nm vl l f b.2 false zone (out++[⟨(Lib.cut b.1.1 [61]).1,(Lib.cut b.1.1 [61]).2.1,b.1.2⟩])
    else none
  else some ((zone,out),i)
abbrev ucaL:Txt:=[117,45,99,97]
abbrev isoL:Txt:=[105,115,111,56,54,48,49]
def calA (l:List NoteT):Nat:=
 if (l.any fun n=>n.key != ucaL && n.sharp)=true then 19
 else if 1<(l.filter fun n=>n.key == ucaL).length/\((l.filter fun n=>n.key == ucaL).any fun n=>n.sharp)=true then 19
 else match l.filter fun n=>n.key == ucaL with
  |[]=>0
  |n :: _=>if Lib.equalFold n.value isoL=true then 0 else 8
structure PartT where
 d:DateT
 t:Option TimT
 kind:Nat
 off:Int
 zone:Txt
def formA (nm vl:Txt->Bool) (l:Txt):Option (PartT×List NoteT):=(dateA l 0).bind fun d=>
 if oneA l [84,116,32] d.2=true then
  (timA l (d.2+1)).bind fun t=>(offA l t.2).bind fun o=>
   (notesA nm vl l (l.length+1) o.2 true [] []).bind fun n=>if n.2<l.length then none else some (⟨d.1,some t.1,o.1.1,o.1.2,n.1.1⟩,n.1.2)
 else (notesA nm vl l (l.length+1) d.2 true [] []).bind fun n=>if n.2<l.length then none else some (⟨d.1,none,0,0,n.1.1⟩,n.1.2)
def parseA (nm vl:Txt->Bool) (ml:Int->Nat->Nat) (l:Txt):Except Nat PartT:=match formA nm vl l with
 |none=> .error 6
 |some x=>if ml x.1.d.y x.1.d.m<x.1.d.d then .error 5 else if calA x.2=0 then .ok x.1 else .error (calA x.2)
theorem tw_at (l:Txt) (k:Nat) (h:93∈l.drop k):∃ r,l.drop k=(l.drop k).takeWhile (· != 93)++93 :: r:=by
 generalize l.drop k=m at*
 induction m with
 |nil=>cases h
 |cons a m ih=>
  by_cases ha:a=93
  ·subst ha
   exact ⟨m,by simp⟩
  ·have h2:93∈m:=by
    rcases List.mem_cons.1 h with h|h
    ·exact absurd h.symm ha
    ·exact h
   obtain ⟨r,hr⟩:=ih h2
   refine ⟨r,?_⟩
   rw [List.takeWhile_cons_of_pos (by simpa using ha),List.cons_append,<-hr]
theorem cov_drop {l:Txt} {k:Nat} {s r:Txt} (h:l.drop k=s++r) (hs:s.all ordB=true):Cov l k (k+s.length):=by
 refine ⟨by omega,fun j c h1 h2 h3=>?_⟩
 have e:(l.drop k)[j - k]?=some c:=by rw [List.getElem?_drop,show k+(j - k)=j from by omega];exact h3
 rw [h,List.getElem?_append_left (by omega)] at e
 exact List.all_eq_true.1 hs c (List.mem_of_getElem? e)
theorem bra_cov {l:Txt} {i:Nat} {b:(Txt×Bool)×Nat} (h0:oneA l [91] i=true) (h:braA l i=some b) (hs:b.1.1.all ordB=true):Cov l i b.2:=by
 unfold braA at h
 have c1:Cov l i (i+1):=one_cov (by decide) h0
 have c2:Cov l i (if oneA l [33] (i+1)=true then i+2 else i+1):=c1.trans (if_cov (of:=[33]) (by decide) (i+1))
 generalize (if oneA l [33] (i+1)=true then i+2 else i+1)=k at*
 split at h
 ·next hm=>
  cases h
  obtain ⟨r,hr⟩:=tw_at l k hm
  refine c2.trans ?_
  have:=cov_drop (s:=(l.drop k).takeWhile (· != 93)++[93]) (r:=r) (by rw [List.append_assoc];exact hr) (by
   rw [List.all_append];simp only [Bool.and_eq_true]
   exact ⟨hs,by decide⟩)
  rw [List.length_append] at this;exact this
 ·cases h
theorem cut_all {s:Txt} (h:(Lib.cut s [61]).2.2=true) (h1:(Lib.cut s [61]).1.all ordB=true) (h2:(Lib.cut s [61]).2.1.all ordB=true):s.all ordB=true:=by
 unfold Lib.cut at h h1 h2
 split at h
 ·next hi=>
  rw [if_pos hi] at h1 h2
  rcases Lib.index_spec s [61] with ⟨e,_⟩|⟨i,e,hl,ho,_⟩
  ·omega
  ·simp only [e,Int.toNat_natCast] at h1 h2
   have hd:s.drop i=61 :: s.drop (i+1):=by
    unfold Lib.occAt at ho
    cases hs:s.drop i with
    |nil=>rw [hs] at ho;simp at ho
    |cons a t=>
     rw [hs] at ho;simp at ho;rw [<-List.drop_drop,hs,<-ho]
     rfl
   rw [<-List.take_append_drop i s,List.all_append,h1,hd]
   simpa [ordB] using h2
 ·cases h
theorem key_all {s:Txt} (h:keyB s=true):s.all ordB=true:=by
 have key:∀ f c,keyC f c=true->ordB c=true:=by
  intro f c h;simp only [keyC,smallB,numB,Bool.or_eq_true,Bool.and_eq_true,decide_eq_true_eq,beq_iff_eq] at h;simp only [ordB,Bool.and_eq_true,decide_eq_true_eq]
  rcases h with (h|rfl)|⟨_,rfl|h⟩
  ·omega
  ·decide
  ·decide
  ·omega
 cases s with
 |nil=>rfl
 |cons c r=>
  simp only [keyB,Bool.and_eq_true,List.all_eq_true] at h;simp only [List.all_cons,Bool.and_eq_true,List.all_eq_true];exact ⟨key _ _ h.1,fun x hx=>key _ _ (h.2 x hx)⟩
theorem notes_cov {nm vl:Txt->Bool} {l:Txt} (hn:∀ s,nm s=true->s.all ordB=true) (hv:∀ s,vl s=true->s.all ordB=true):
  ∀ {f i:Nat} {first:Bool} {zone:Txt} {out:List NoteT} {x:(Txt×List NoteT)×Nat},notesA nm vl l f i first zone out=some x->Cov l i x.2
 |0,i,first,zone,out,x,e=>by cases e
 |f+1,i,first,zone,out,x,e=>by
  rw [notesA] at e
  split at e
  ·next h0=>
   obtain ⟨b,hb,e⟩:=Option.bind_eq_some_iff.1 e
   split at e
   ·next h1=>
    simp only [Bool.and_eq_true] at h1;exact (bra_cov h0 hb (hn _ h1.2.2)).trans (notes_cov hn hv e)
   ·split at e
    ·next h1=>
     simp only [Bool.and_eq_true] at h1;exact (bra_cov h0 hb (cut_all h1.1 (key_all h1.2.1) (hv _ h1.2.2))).trans (notes_cov hn hv e)
    ·cases e
  ·cases e;exact Cov.refl _ _
theorem form_odd {nm vl:Txt->Bool} {l:Txt} (hn:∀ s,nm s=true->s.all ordB=true) (hv:∀ s,vl s=true->s.all ordB=true) {p:Nat} {c:UInt8} (hp:l[p]?=some c) (hc:ordB c=false):formA nm vl l=none:=by
 cases h:formA nm vl l with
 |none=>rfl
 |some t=>
  exfalso
  obtain ⟨d,hd,e⟩:=Option.bind_eq_some_iff.1 h
  split at e
  ·next h1=>
   obtain ⟨t,ht,e⟩:=Option.bind_eq_some_iff.1 e;obtain ⟨o,ho,e⟩:=Option.bind_eq_some_iff.1 e;obtain ⟨n,hnn,e⟩:=Option.bind_eq_some_iff.1 e
   split at e
   ·cases e
   ·exact no_cov ((((date_cov hd).trans (one_cov (by decide) h1)).trans (tim_cov ht)).trans ((off_cov ho).trans (notes_cov hn hv hnn))) (by omega) hp hc
  ·obtain ⟨n,hnn,e⟩:=Option.bind_eq_some_iff.1 e
   split at e
   ·cases e
   ·exact no_cov ((date_cov hd).trans (notes_cov hn hv hnn)) (by omega) hp hc
theorem notes_tw {nm vl:Txt->Bool} {l m:Txt} (h91:∀ i,oneA l [91] i=oneA m [91] i) (hd:∀ i,oneA l [91] i=true->l.drop i=m.drop i) (f i:Nat) (first:Bool) (zone:Txt) (out:List NoteT):
  notesA nm vl l f i first zone out=notesA nm vl m f i first zone out:=by
 have from_:∀ i,l.drop i=m.drop i->∀ of k,i<=k->oneA l of k=oneA m of k:=by
  intro i e of k hk
  have:(l.drop i)[k - i]?=(m.drop i)[k - i]?:=by rw [e]
  rw [List.getElem?_drop,List.getElem?_drop,show i+(k - i)=k from by omega] at this
  rw [oneA,oneA,this]
 have dk:∀ i,l.drop i=m.drop i->∀ k,i<=k->l.drop k=m.drop k:=by
  intro i e k hk
  have:(l.drop i).drop (k - i)=(m.drop i).drop (k - i):=by rw [e]
  rw [List.drop_drop,List.drop_drop,show i+(k - i)=k from by omega] at this
  exact this
 have bra:∀ i,l.drop i=m.drop i->braA l i=braA m i:=by
  intro i e
  rw [braA,braA,from_ i e [33] (i+1) (by omega)]
  have h2:l.drop (if oneA m [33] (i+1)=true then i+2 else i+1)=m.drop (if oneA m [33] (i+1)=true then i+2 else i+1):=dk i e _ (by split<;>omega)
  rw [h2]
 induction f generalizing i first zone out with
 |zero=>rfl
 |succ f ih=>
  rw [notesA,notesA,<-h91 i]
  split
  ·next h0=>
   rw [bra i (hd i h0)];simp only [ih]
  ·rfl
theorem form_tw {nm vl:Txt->Bool} {S:List (List UInt8)} {l m:Txt} (h:Tw S l m) (h43:[43]∈S) (h45:[45]∈S) (h58:[58]∈S) (hp:[46,44]∈S) (hz:[90,122]∈S) (hs:[43,45]∈S) (hT:[84,116,32]∈S) (hb:[91]∈S) (hd:∀ i,oneA l [91] i=true->l.drop i=m.drop i):formA nm vl l=formA nm vl m:=by
 have h1:=notes_tw (nm:=nm) (vl:=vl) (h.one _ hb) hd;rw [formA,formA,date_tw h h43 h45];simp only [h.one _ hT,tim_tw h h58 hp,off_tw h h58 hz hs h45,h1,h.len]
end Gr
end
end
section
section
namespace Plc
open Go.RowKit Mem
def letterI (n:Int):Bool:=(decide (97<=n) && decide (n<=122)) || (decide (65<=n) && decide (n<=90))
theorem letter_any (n:Int) (w:World):Calls prog 145 #[.int .u8 n] w fun e w'=>e= .returned (.bool (letterI n))/\w'=w:=by
 go_enter func145,ntmps145;unfold letterI
 cases h1:decide (97<=n)<;>cases h2:decide (n<=122)<;>cases h3:decide (65<=n)<;>cases h4:decide (n<=90)
 all_goals go_wp2
 all_goals go_ret
 all_goals simp
def okB (others:List UInt8) (c:UInt8):Bool:=letterI c.toNat || (!(decide ((c.toNat:Int)<48)) && !(decide ((57:Int)<c.toNat))) || !(decide (Lib.indexByte others c<0))
def madeB (s:List UInt8) (most:Int) (others:List UInt8):Bool:=s.all (okB others) && (!s.isEmpty && decide ((s.length:Int)<=most))
theorem all_succ {l:List UInt8} {f:UInt8->Bool} {k:Nat} (hk:k<l.length) (h:(l.take k).all f=true) (hf:f l[k]=true):(l.take (k+1)).all f=true:=by
 rw [List.take_succ_eq_append_getElem hk,List.all_append,h];simp [hf]
theorem made_no {l others:List UInt8} {k:Nat} (hk:k<l.length) {most:Int} (hf:okB others l[k]=false):madeB l most others=false:=by
 have:l.all (okB others)=false:=by
  rw [List.all_eq_false]
  exact ⟨l[k],List.getElem_mem hk,by rw [hf];decide⟩
 simp [madeB,this]
theorem len_eq (s:ByteArray):s.data.toList.length=s.size:=by simp
theorem made_any (s others:ByteArray) (most:Int) (w:World) (hs:s.size<=140737488355328):
  Calls prog 134 #[.string s,.int .i64 most,.string others] w fun e w'=>e= .returned (.bool (madeB s.data.toList most others.data.toList))/\w'=w:=by
 go_enter func134,ntmps134
 go_wp2_with fail
 go_loopw [11] (fun i wr=>∃ k:Nat,k<=s.size/\i= .int .i64 k/\(s.data.toList.take k).all (okB others.data.toList)=true/\wr=w) (fun i _=>s.size - (intOf i).toNat)
 case atStart=>exact ⟨0,Nat.zero_le _,rfl,rfl,rfl⟩
 case round=>
  obtain ⟨k,hk,rfl,hall,rfl⟩:=hrel;have Hall:=hid hall;clear hall
  by_cases hkn:k<s.size
  ·have hc:(((s[k]'hkn).toNat:Int).toNat).toUInt8=s[k]'hkn:=by simp
   obtain ⟨ok,hok⟩:∃ ok,okB others.data.toList (s[k]'hkn)=ok:=⟨_,rfl⟩;have Hok:=hid hok;simp only [okB] at hok
   cases h1:letterI ((s[k]'hkn).toNat:Int)<;>cases h2:decide (((s[k]'hkn).toNat:Int)<48)<;>cases h3:decide ((57:Int)<(s[k]'hkn).toNat)<;>cases h4:decide (Lib.indexByte others.data.toList (s[k]'hkn)<0)
   all_goals rw [h1,h2,h3,h4] at hok
   all_goals simp at hok
   all_goals subst hok
   all_goals go_wp2_with (first
    |(go_at_call 145;refine (letter_any _ _).mono ?_;rintro e w1 ⟨rfl,rfl⟩;rw [h1])
    |(go_at_call 29;refine (Tryz.strings_IndexByte _ _ _).mono ?_;rintro e w1 ⟨rfl,rfl⟩;rw [hc]))
   all_goals first
    |(refine ⟨⟨k+1,by omega,by go_num,all_succ (by simpa using hkn) Hall.out Hok.out,trivial⟩,by simp [intOf];omega⟩;done)
    |(go_ret;exact ⟨by rw [made_no (k:=k) (by simpa using hkn) Hok.out];rfl,rfl⟩)
  ·obtain rfl:k=s.size:=by omega
   rw [show s.data.toList.take s.size=s.data.toList from List.take_of_length_le (by simp)] at Hall
   have hemp:s.data.toList.isEmpty=s.toList.isEmpty:=by rw [ByteArray.toList_eq]
   have Hemp:=hid hemp;clear hemp
   cases h1:s.toList.isEmpty<;>cases h2:decide ((s.size:Int)<=most)
   all_goals go_wp2
   all_goals go_ret
   all_goals
    refine ⟨?_,rfl⟩
    simp only [madeB,Hall.out,Hemp.out,h1,Bool.true_and,len_eq,h2]
    rfl
theorem slash_pos:1<=(⟨#[47]⟩:ByteArray).size:=by decide
def parts (name:ByteArray):List ByteArray:=Lib.splitB ⟨#[47]⟩ 0 (Lib.countB name ⟨#[47]⟩) name
def placeB (name:ByteArray):Bool:=(parts name).all (fun p=>madeB p.data.toList 40 [95,43,45]) && decide ((name.size:Int)<=40)
theorem parts_le (sep:ByteArray) (k:Nat) (s:ByteArray):∀ p∈Lib.splitB sep 0 k s,p.size<=s.size:=by
 induction k generalizing s with
 |zero=>intro p hp;simp [Lib.splitB] at hp;subst hp;exact Nat.le_refl _
 |succ k ih=>
  intro p hp;unfold Lib.splitB at hp
  split at hp
  ·simp at hp;subst hp;exact Nat.le_refl _
  ·rcases List.mem_cons.1 hp with rfl|hp
   ·rw [ByteArray.size_extract];omega
   ·have:=ih _ p hp
    rw [ByteArray.size_extract] at this;omega
theorem place_any (name:ByteArray) (m:Int) (w:World) (hs:name.size<=2097152) (hm:w.cell? ⟨1,0,none⟩=some (.int .i64 m)):
  Calls prog 114 #[.string name] w fun e w'=>e= .returned (.bool (placeB name))/\Below w.heap.size w w':=by
 go_enter func114,ntmps114;have hL:(parts name).length=Lib.countB name ⟨#[47]⟩+1:=Lib.splitB_all _ slash_pos 0 _ name rfl;have hcnt:=Lib.countB_le ⟨#[47]⟩ slash_pos name.size name (Nat.le_refl _);have hsz:∀ p∈parts name,p.size<=name.size:=parts_le _ _ _
 go_wp2_with (go_at_call 117;refine (Tryz.strings_Split name ⟨#[47]⟩ m w (by omega) hm slash_pos).mono ?_;rintro e w1 ⟨rfl,hw1⟩;have Hblk:Hid (Blk w1 w.heap.size 9 ((parts name).map Value.string).toArray):=(by rw [hw1];exact Blk.new w _ _);have Hbel:Hid (Below w.heap.size w w1):=(by rw [hw1];exact (Below.refl _ _).alloc (Nat.le_refl _) _);clear hw1)
 have HL:=hid hL;clear hL;generalize hc:Lib.countB name ⟨#[47]⟩=c at*
 go_loopw [8] (fun i wr=>∃ k:Nat,k<=c+1/\i= .int .i64 k/\((parts name).take k).all (fun p=>madeB p.data.toList 40 [95,43,45])=true/\wr=w1) (fun i _=>c+1 - (intOf i).toNat)
 case atStart=>exact ⟨0,Nat.zero_le _,rfl,rfl,rfl⟩
 case round=>
  obtain ⟨k,hk,rfl,hall,rfl⟩:=hrel;have Hall:=hid hall;clear hall
  by_cases hkn:k<c+1
  ·have hkl:k<(parts name).length:=by rw [HL.out];exact hkn
   have hps:=hsz (parts name)[k] (List.getElem_mem hkl)
   have hcell:wr.cell? (Addr.add ⟨w.heap.size,0,none⟩ k)=some (.string (parts name)[k]):=by
    rw [show Addr.add ⟨w.heap.size,0,none⟩ k=⟨w.heap.size,k,none⟩ from by unfold Addr.add;split<;>simp_all,Hblk.out.cell k]
    simp [List.getElem?_eq_getElem hkl]
   have ad:Addr.add ⟨w.heap.size,0,none⟩ k=⟨w.heap.size,k,none⟩:=by unfold Addr.add;split<;>simp_all
   rw [ad] at hcell;generalize hp:(parts name)[k]=p at*;have Hp:=hid hp;clear hp;have hmd:Hid (madeB p.data.toList 40 (⟨#[95,43,45]⟩:ByteArray).data.toList=madeB p.data.toList 40 [95,43,45]):=rfl
   cases hm1:madeB p.data.toList 40 [95,43,45]
   all_goals go_wp2_with (go_at_call 134;refine (made_any _ _ _ _ (by omega)).mono ?_;rintro e w1 ⟨rfl,rfl⟩;rw [hmd.out,hm1])
   ·go_ret
    refine ⟨?_,Hbel.out⟩
    have:(parts name).all (fun p=>madeB p.data.toList 40 [95,43,45])=false:=by
     rw [List.all_eq_false]
     exact ⟨(parts name)[k],List.getElem_mem hkl,by rw [Hp.out,hm1];decide⟩
    simp [placeB,this]
   ·refine ⟨⟨k+1,by omega,by go_num,?_,trivial⟩,by simp [intOf];omega⟩
    rw [List.take_succ_eq_append_getElem hkl,List.all_append,Hall.out,Hp.out];simp [hm1]
  ·obtain rfl:k=c+1:=by omega
   rw [List.take_of_length_le (by rw [HL.out];exact Nat.le_refl _)] at Hall
   go_wp2;go_ret
   refine ⟨?_,Hbel.out⟩
   simp only [placeB,Hall.out,Bool.true_and]
   rfl
end Plc
end
end
end Go.Proofs.YtiiekaehbahenaaGreatDoor
