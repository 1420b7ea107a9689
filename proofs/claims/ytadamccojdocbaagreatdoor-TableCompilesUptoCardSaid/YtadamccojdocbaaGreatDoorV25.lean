/-
  Contracts of the code that the law reaches, and plain laws. Conditions: as each says.
-/
import Derived.Test.YtadamccojdocbaaGreatDoorV24
set_option linter.all false
set_option maxHeartbeats 40000000
set_option maxRecDepth 100000
namespace Go.Proofs.YtadamccojdocbaaGreatDoor
open Lib (hid)
open Tryz
section
section
namespace Cmq
open Go.RowKit Mem Civ Mom Img Plc Rul Ahd Trn Src Snd Att Rgt Abr
theorem light14_any (s:Src) (A A2 A3:Option Addr) (c c2 c3:Nat) (w:World) (h:SrcOk s A A2 A3 w):
  Calls prog 10 #[.agg #[.slice A s.rules.length c,.slice A2 s.zones.length c2,.slice A3 s.links.length c3]] w fun e w'=>∃ b,e= .returned (.bool b)/\(b=true->checkB s=noFlaw->YrsP s.rules)/\Below w.heap.size w w':=by
 have hL:=fun z (hb:Below w.heap.size w z)=>light_yrs s A A2 A3 c c2 c3 z (h.below hb);have hrr:=h.rr;have hrz:=h.rz;have nr:=h.nr;have nz:=h.nz;have ne:=h.ne;clear h;obtain ⟨Q,hQ⟩:∃ Q:Prop,(checkB s=noFlaw->YrsP s.rules)=Q:=⟨_,rfl⟩;simp only [hQ] at hL ⊢;clear hQ;obtain ⟨rs,zs,ls⟩:=s;simp only at hL hrr hrz nr nz ne ⊢;have hone:=Civ.One.new w 26 #[.slice A rs.length c,.slice A2 zs.length c2,.slice A3 ls.length c3];obtain ⟨W,hW⟩:∃ W,w.alloc (.cells #[.slice A rs.length c,.slice A2 zs.length c2,.slice A3 ls.length c3] 26)=W:=⟨_,rfl⟩;rw [hW] at hone;have HO:=hid hone;have HL:=hid hL;have HR:=hid hrr;have HZ:=hid hrz;have HE:=hid ne;have c0:=hone.1.cell;clear hone hL hrr hrz ne;go_enter func10,ntmps10
 cases g:decide ((24:Int)<((rs.length:Nat):Int))
 ·go_wp2_with (go_at_call 31;refine (HL.out _ HO.out.2).mono ?_;rintro e w1 ⟨b,rfl,hb1,hb⟩;have ho:=HO.out.step hb;have k1:=ho.1.cell;have HO1:=hid ho;have HB:=hid hb1;clear hb ho hb1 c0;cases b)
  ·go_ret
   exact ⟨false,rfl,by simp,HO1.out.2⟩
  ·have hq:Q:=HB.out trivial
   have HQ:=hid hq;clear hq HB
   go_loopw [3,4] (fun n i wr=>∃ (k:Nat) (m:Int),k<=zs.length/\n= .int .i64 m/\i= .int .i64 k/\wr=w1) (fun _ i _=>zs.length - (intOf i).toNat)
   case atStart=>exact ⟨0,1,Nat.zero_le _,rfl,rfl,rfl⟩
   case round=>
    obtain ⟨k,m,hk,rfl,rfl,rfl⟩:=hrel
    by_cases hkn:k<zs.length
    ·obtain ⟨ad,hA,hadb,a0,a1⟩:=zone_cells (HZ.out.below HO1.out.2) hkn rfl
     subst hA
     go_wp2_with fail
     exact ⟨⟨k+1,_,by omega,rfl,by go_num,trivial⟩,by simp [intOf];omega⟩
    ·obtain rfl:k=zs.length:=by omega
     go_wp2_with fail
     go_loopw [5,6] (fun n i wz=>∃ (k l:Nat) (m':Int),k<=rs.length/\n= .int .i64 m'/\i= .int .i64 k/\wz=wr) (fun _ i _=>rs.length - (intOf i).toNat)
     case atStart=>exact ⟨0,0,2037,Nat.zero_le _,rfl,rfl,rfl⟩
     case round=>
      obtain ⟨j,_,m',hj,rfl,rfl,rfl⟩:=hrel
      by_cases hjn:j<rs.length
      ·obtain ⟨ad,hA,hadb,a0,a1,a2,a3,a4,a5,a6,a7,a8,a9,a10⟩:=rule_cells (HR.out.below HO1.out.2) hjn
       subst hA
       go_wp2_with fail
       exact ⟨⟨j+1,0,_,by omega,rfl,by go_num,trivial⟩,by simp [intOf];omega⟩
      ·obtain rfl:j=rs.length:=by omega
       cases h1:decide (m<=8)<;>cases h2:decide (1700<=m')<;>cases h3:decide (m'<1)
       all_goals go_wp2_with fail
       all_goals go_ret
       all_goals exact ⟨_,rfl,fun _=>HQ.out,HO1.out.2⟩
 ·go_wp2_with (go_at_call 31;refine (HL.out _ HO.out.2).mono ?_;rintro e w1 ⟨b,rfl,hb1,hb⟩;have ho:=HO.out.step hb;have k1:=ho.1.cell;have HO1:=hid ho;clear hb ho hb1 c0;cases b)
  all_goals (go_ret;exact ⟨false,rfl,by simp,HO1.out.2⟩)
end Cmq
end
end
section
section
namespace Cmq
open Go.RowKit Mem Civ Mom Img Plc Rul Ahd Trn Src Snd Att Rgt Abr
theorem replace1 (s old new:List UInt8):Lib.replace s old new 1=s\/∃ i j,Lib.replace s old new 1=s.take i++new++s.drop (i+j)/\j=old.length:=by
 unfold Lib.replace
 split
 ·exact .inl rfl
 ·have:Lib.replaceNum s old 1=0\/Lib.replaceNum s old 1=1:=by
   unfold Lib.replaceNum
   split
   ·left;omega
   ·right;rfl
  rcases this with h|h
  ·rw [h];exact .inl rfl
  ·rw [h,Lib.replaceK]
   split
   ·exact .inl rfl
   ·exact .inr ⟨_,_,rfl,rfl⟩
theorem replace1_mem {s old new:List UInt8} {x:UInt8} (h:x∈Lib.replace s old new 1):x∈s\/x∈new:=by
 rcases replace1 s old new with e|⟨i,j,e,_⟩
 ·rw [e] at h;exact .inl h
 ·rw [e] at h
  rcases List.mem_append.1 h with h|h
  ·rcases List.mem_append.1 h with h|h
   ·exact .inl (List.mem_of_mem_take h)
   ·exact .inr h
  ·exact .inl (List.mem_of_mem_drop h)
theorem replace1_len (s old new:List UInt8):(Lib.replace s old new 1).length<=s.length+new.length:=by
 rcases replace1 s old new with e|⟨i,j,e,_⟩
 ·rw [e];omega
 ·rw [e]
  simp only [List.length_append,List.length_take,List.length_drop];omega
theorem cut_mem {s sep:List UInt8} {x:UInt8}:(x∈(Lib.cut s sep).1->x∈s)/\(x∈(Lib.cut s sep).2.1->x∈s):=by
 unfold Lib.cut
 split
 ·exact ⟨List.mem_of_mem_take,List.mem_of_mem_drop⟩
 ·exact ⟨fun h=>h,fun h=>by simp at h⟩
theorem size_list (b:ByteArray):b.size=b.data.toList.length:=Lib.size_eq b
def okText (b:ByteArray):Prop:=∀ c∈b.data.toList,byteOk c=true
theorem digB_ok {n:Int} (h0:0<=n) (h1:n<=9):byteOk (digB n)=true:=by
 rcases (by omega:n=0\/n=1\/n=2\/n=3\/n=4\/n=5\/n=6\/n=7\/n=8\/n=9) with rfl|rfl|rfl|rfl|rfl|rfl|rfl|rfl|rfl|rfl<;>decide
theorem ok_append {a b:ByteArray} (h:okText a) (k:okText b):okText (a++b):=by
 intro c hc;rw [ByteArray.data_append,Array.toList_append,List.mem_append] at hc;exact hc.elim (h c) (k c)
theorem twoB_ok (n:Int):okText (twoB n):=by
 intro c hc;simp only [twoB,List.mem_cons,List.not_mem_nil,or_false] at hc
 rcases hc with rfl|rfl
 ·exact digB_ok (by omega) (by omega)
 ·exact digB_ok (by omega) (by omega)
theorem toldB_ok (n:Int):okText (toldB n):=by
 have hp:okText ⟨#[43]⟩:=by intro c hc;simp at hc;subst hc;decide
 have hm:okText ⟨#[45]⟩:=by intro c hc;simp at hc;subst hc;decide
 have key:∀ (g:ByteArray) (a b c:Int),okText g->okText (partsB g a b c):=by
  intro g a b c hg;unfold partsB
  split
  ·exact ok_append hg (twoB_ok _)
  ·split
   ·exact ok_append (ok_append hg (twoB_ok _)) (twoB_ok _)
   ·exact ok_append (ok_append (ok_append hg (twoB_ok _)) (twoB_ok _)) (twoB_ok _)
 unfold toldB
 split
 ·exact key _ _ _ _ hm
 ·exact key _ _ _ _ hp
theorem abbr_ok {f l:ByteArray} (hf:okText f) (hl:okText l) (hf2:f.size<=20) (hl2:l.size<=8) (off save:Int):okText (abbrB f l off save)/\(abbrB f l off save).size<=40:=by
 have ht:=told_size off;rw [size_list] at hf2 hl2 ht;unfold abbrB
 split
 ·refine ⟨fun c hc=>?_,?_⟩
  ·rcases replace1_mem hc with h|h
   ·exact hf c h
   ·exact hl c h
  ·have:=replace1_len f.data.toList [37,115] l.data.toList
   rw [size_list]
   show (Lib.replace f.data.toList [37,115] l.data.toList 1).length<=40
   omega
 ·split
  ·refine ⟨fun c hc=>?_,?_⟩
   ·rcases replace1_mem hc with h|h
    ·exact hf c h
    ·exact toldB_ok off c h
   ·have:=replace1_len f.data.toList [37,122] (toldB off).data.toList
    rw [size_list]
    show (Lib.replace f.data.toList [37,122] (toldB off).data.toList 1).length<=40
    omega
  ·have hc:=cut_le f.data.toList [47]
   split
   ·refine ⟨fun c h=>hf c (cut_mem.2 h),?_⟩
    rw [size_list]
    show (Lib.cut f.data.toList [47]).2.1.length<=40
    omega
   ·refine ⟨fun c h=>hf c (cut_mem.1 h),?_⟩
    rw [size_list]
    show (Lib.cut f.data.toList [47]).1.length<=40
    omega
theorem index_in:∀ {l:List UInt8} {c:UInt8},¬ Lib.indexByte l c<0->c∈l
 |[],c,h=>absurd (show Lib.indexByte [] c<0 by unfold Lib.indexByte;decide) h
 |b :: l,c,h=>by
  unfold Lib.indexByte at h
  split at h
  ·next he=>
   rw [beq_iff_eq] at he;simp [he]
  ·split at h
   ·omega
   ·next hn=>
    have hg:=Lib.indexByte_ge l c
    have:¬ Lib.indexByte l c= -1:=fun e=>hn (by simp [e])
    exact List.mem_cons_of_mem _ (index_in (by omega))
theorem ok_byte {others:List UInt8} {c:UInt8} (h:okB others c=true) (ho:∀ x∈others,byteOk x=true):byteOk c=true:=by
 unfold okB at h;simp only [Bool.or_eq_true,Bool.and_eq_true,Bool.not_eq_true',decide_eq_false_iff_not] at h
 have key:(33:Int)<=c.toNat->(c.toNat:Int)<=126->byteOk c=true:=by
  intro h1 h2;unfold byteOk;simp only [Bool.and_eq_true,Bool.not_eq_true',decide_eq_false_iff_not];omega
 rcases h with (h|h)|h
 ·unfold letterI at h
  simp only [Bool.or_eq_true,Bool.and_eq_true,decide_eq_true_eq] at h
  exact key (by omega) (by omega)
 ·exact key (by omega) (by omega)
 ·exact ho c (index_in h)
theorem made_ok {b:ByteArray} {n:Nat} {most:Int} {others:List UInt8} (h:madeB b.data.toList most others=true) (ho:∀ x∈others,byteOk x=true) (hm:most<=n):okText b/\b.size<=n:=by
 unfold madeB at h;simp only [Bool.and_eq_true,decide_eq_true_eq] at h
 refine ⟨fun c hc=>ok_byte (List.all_eq_true.1 h.1 c hc) ho,?_⟩
 rw [size_list];omega
theorem format_ok {f:ByteArray} (h:formatB f.data.toList=true):okText f/\f.size<=20:=by
 unfold formatB at h;rw [Bool.and_eq_true] at h
 exact made_ok (n:=20) h.1 (by decide) (by omega)
theorem letter_ok {l:ByteArray} (h:letterB l=true):okText l/\l.size<=8:=by
 unfold letterB at h;rw [Bool.or_eq_true,decide_eq_true_eq] at h
 rcases h with h|h
 ·rw [ByteArray.toList_eq] at h
  refine ⟨fun c hc=>?_,?_⟩
  ·rw [h] at hc;simp at hc
  ·rw [size_list,h];decide
 ·rw [Bool.and_eq_true] at h
  exact made_ok (n:=8) h.2 (by decide) (by omega)
theorem ruleR_letter {r:Rule} (h:ruleR r=true):letterB r.letter=true:=by
 unfold ruleR at h;simp only [Bool.and_eq_true] at h;exact h.2.2.2.2.2
def SavOk (x:Era) (f:Int×ByteArray):Prop:=(-43200<=f.1/\f.1<=43200)/\(-86400<x.off+f.1/\x.off+f.1<86400)/\okText f.2/\f.2.size<=8
theorem phaseG_ok {x:Era} (hx:eraB x=true) {f:Int×ByteArray} (h:SavOk x f):phaseB (phaseG x f)=true:=by
 obtain ⟨⟨h1,h2⟩,⟨h3,h4⟩,h5,h6⟩:=h;unfold eraB at hx;simp only [Bool.and_eq_true] at hx;obtain ⟨g1,g2⟩:=format_ok hx.1.2;obtain ⟨a1,a2⟩:=abbr_ok g1 h5 g2 h6 (x.off+f.1) f.1;unfold phaseB phaseG dayB;simp only [Bool.and_eq_true,decide_eq_true_eq]
 exact ⟨List.all_eq_true.2 a1,⟨⟨⟨h3,h4⟩,h1⟩,h2⟩,by omega⟩
theorem force_from (rs:List Rule) (off t:Int):(∃ r∈rs,forceP rs off t=(r.save,r.letter))\/(∃ r∈rs,forceP rs off t=(0,r.letter))\/forceP rs off t=(0,⟨#[]⟩):=by
 unfold forceP
 split
 ·cases hx:latestL (fun x=>decide (uniT rs off x<=t)) (yearI t) rs with
  |some x=>
   obtain ⟨r,hm,z,hz⟩:=latest_from hx;obtain ⟨_,e1,e2,_⟩:=turnL_at hz
   exact .inl ⟨r,hm,by simp only [giveO,e1,e2]⟩
  |none=>
   cases hf:firstO rs with
   |none=>exact .inr (.inr (by simp [giveO,firstP,hf,noTurn]))
   |some x=>
    obtain ⟨r,hm,z,hz⟩:=first_from hf;obtain ⟨_,_,e2,_⟩:=turnL_at hz
    exact .inr (.inl ⟨r,hm,by simp [giveO,firstP,hf,e2]⟩)
 ·exact .inr (.inr rfl)
theorem none_ok:okText ⟨#[]⟩/\(⟨#[]⟩:ByteArray).size<=8:=⟨fun c hc=>by simp at hc,by decide⟩
section
variable {s:Src} (h:checkB s=noFlaw) {z:ZoneM} (hz:z∈s.zones) {x:Era} (hx:x∈z.eras)
include h hz hx
theorem era_day:(-86400<x.off+x.save/\x.off+x.save<86400)/\(x.kind=2->∀ r∈setL s.rules x.rules,-86400<x.off+r.save/\x.off+r.save<86400):=by
 have hw:=zone_w h hz;obtain ⟨⟨o1,o2⟩,_,_,⟨s1,s2⟩,_⟩:=era_parts (hw.era x hx);obtain ⟨k,hk,e⟩:=List.mem_iff_getElem.1 hx
 have he:=hw.err k x (by rw [List.getElem?_eq_getElem hk,e])
 unfold eraE at he
 split at he
 ·omega
 ·split at he
  ·omega
  ·next hn=>
   split at he
   ·omega
   ·next hd=>
    have w1:wrap64 (x.off+x.save)=x.off+x.save:=by unfold wrap64;omega
    rw [w1] at hd;unfold dayB at hd;simp only [Bool.not_eq_false,Bool.and_eq_true,decide_eq_true_eq] at hd
    refine ⟨hd,fun hk2 r hr=>?_⟩
    have hf:farB x.off (setL s.rules x.rules)=false:=by
     cases hb:farB x.off (setL s.rules x.rules)
     ·rfl
     ·exact absurd ⟨hk2,hb⟩ hn
    unfold farB at hf;rw [Bool.not_eq_false',List.all_eq_true] at hf;have h1:=hf r hr;have h2:=rule_save (src_right (clean_parts h).1 _) hr
    have w2:wrap64 (x.off+r.save)=x.off+r.save:=by unfold wrap64;omega
    rw [w2] at h1;unfold dayB at h1
    simpa using h1
theorem rule_sav (hk:x.kind=2) {r:Rule} (hr:r∈setL s.rules x.rules):SavOk x (r.save,r.letter):=by
 have hs:=(clean_parts h).1;have h1:=rule_save (src_right hs _) hr;obtain ⟨l1,l2⟩:=letter_ok (ruleR_letter (src_rules hs r (setL_mem.1 hr).1));exact ⟨⟨h1.1,h1.2.1⟩,(era_day h hz hx).2 hk r hr,l1,l2⟩
theorem sav_ok (t:Int):SavOk x (savE s.rules x t):=by
 have hs:=(clean_parts h).1;obtain ⟨⟨o1,o2⟩,_,_,⟨s1,s2⟩,_,s0,_⟩:=era_parts ((zone_w h hz).era x hx);unfold savE
 split
 ·next hk=>
  have e:setOf s.rules x=setL s.rules x.rules:=by unfold setOf;rw [if_pos hk]
  rw [e]
  rcases force_from (setL s.rules x.rules) x.off t with ⟨r,hr,e⟩|⟨r,hr,e⟩|e
  ·rw [e];exact rule_sav h hz hx hk hr
  ·rw [e]
   obtain ⟨_,_,l1,l2⟩:=rule_sav h hz hx hk hr
   exact ⟨by omega,by simp only;omega,l1,l2⟩
  ·rw [e]
   exact ⟨by omega,by simp only;omega,none_ok.1,none_ok.2⟩
 ·split
  ·exact ⟨⟨s1,s2⟩,(era_day h hz hx).1,none_ok.1,none_ok.2⟩
  ·exact ⟨by omega,by simp only;omega,none_ok.1,none_ok.2⟩
theorem phaseE_ok (t:Int):phaseB (phaseE s.rules x t)=true:=phaseG_ok ((zone_w h hz).era x hx) (sav_ok h hz hx t)
theorem turnsE_ok {u:TurnU} (hu:u∈turnsE s.rules (lastZ s.rules z.eras) x):phaseB (phaseU x u)=true:=by
 have he:=era_ok h hz hx;have hy:=zone_year h hz
 have hk:x.kind=2:=by
  by_cases hk:x.kind=2
  ·exact hk
  ·exfalso
   unfold turnsE turnsP at hu;rw [he.none_ hk] at hu;simp at hu
 obtain ⟨l,l1,_,l3⟩:=turns_list (last:=lastZ s.rules z.eras+3) he.right he.crowd he.far he.off.1 he.off.2 (by have:=he.last;omega) (by omega)
 unfold turnsE at hu;rw [l1] at hu;obtain ⟨t,ht,rfl⟩:=List.mem_map.1 hu;obtain ⟨⟨r,hr,y,hy⟩,_⟩:=(l3 t).1 ht;obtain ⟨_,e1,e2,_⟩:=turnL_at hy;have:=phaseG_ok ((zone_w h hz).era x hx) (rule_sav h hz hx hk hr)
 show phaseB (phaseG x (t.save,t.letter))=true
 rw [e1,e2];exact this
end
def PhOk (l:List Shift):Prop:=∀ s∈l,phaseB s.ph=true
theorem cut_ph {a:Int} {l:List Shift} (h:PhOk l):PhOk (cutAt a l):=by
 unfold cutAt
 split
 ·split
  ·exact fun s hs=>h s ((List.dropLast_sublist _).subset hs)
  ·exact h
 ·exact h
theorem put_ph {first:Phase} {till:Int} {m:List Shift×Bool} {a:Int} {p:Phase} (h:PhOk m.1) (hp:phaseB p=true):PhOk (putP first till m a p).1:=by
 unfold putP
 split
 ·exact cut_ph h
 ·split
  ·exact cut_ph h
  ·intro s hs
   rcases List.mem_append.1 hs with hs|hs
   ·exact cut_ph h s hs
   ·have:s=⟨a,p⟩:=by simpa using hs
    subst this;exact hp
theorem turns_ph {first:Phase} {till:Int} {x:Era} {a b:Int}:∀ (l:List TurnU) (m:List Shift×Bool),PhOk m.1->(∀ u∈l,phaseB (phaseU x u)=true)->PhOk (l.foldl (turnPut first till x a b) m).1
 |[],_,h,_=>h
 |t :: l,m,h,hl=>by
  refine turns_ph l _ ?_ fun u hu=>hl u (by simp [hu])
  unfold turnPut
  split
  ·exact h
  ·exact put_ph h (hl t (by simp))
theorem eras_ph {s:Src} (h:checkB s=noFlaw) {z:ZoneM} (hz:z∈s.zones) (first:Phase) (till:Int):∀ (es:List Era) (i:Bool) (m:(List Shift×Bool)×Int),(∀ x∈es,x∈z.eras)->PhOk m.1.1->PhOk (erasPut s first till (lastZ s.rules z.eras) es i m).1.1
 |[],_,_,_,hm=>hm
 |x :: es,i,m,he,hm=>by
  rw [erasPut]
  refine eras_ph h hz first till es true _ (fun u hu=>he u (by simp [hu])) ?_
  unfold eraPut
  refine turns_ph _ _ ?_ fun u hu=>turnsE_ok h hz (he x (by simp)) hu
  split
  ·exact put_ph hm (phaseE_ok h hz (he x (by simp)) _)
  ·exact hm
theorem diff_at:∀ {ss:List Shift} {p:Phase},Diff p ss->∀ (k:Nat) (s:Shift),ss[k]?=some s->s.ph≠hadAt p ss k
 |[],_,_,_,_,h=>by simp at h
 |a :: t,p,hd,k,s,h=>by
  cases k with
  |zero=>
   simp only [List.getElem?_cons_zero,Option.some.injEq] at h
   subst h;exact hd.1
  |succ k=>
   rw [List.getElem?_cons_succ] at h
   have:=diff_at hd.2 k s h
   cases k with
   |zero=>exact this
   |succ j=>
    have hj:j<t.length:=by
     have:=(List.getElem?_eq_some_iff.1 h).1
     omega
    simp only [hadAt,List.getElem?_cons_succ,List.getElem?_eq_getElem hj,Option.map_some,Option.getD_some] at this ⊢
    exact this
theorem shifts_right {first:Phase} {till a:Int} {ss:List Shift} (h:Gd first till a ss) (hp:PhOk ss) {nm fm:ByteArray} {tl:List Rule} {off:Int}:shiftsB ⟨nm,first,ss,till,tl,off,fm⟩=true:=by
 unfold shiftsB;rw [List.all_eq_true];intro k hk;have hk2:k<ss.length:=List.mem_range.1 hk;unfold okAt
 simp only [List.getElem?_eq_getElem hk2]
 simp only [Bool.and_eq_true,Bool.not_eq_true',decide_eq_false_iff_not];have hm:=List.getElem_mem hk2
 refine ⟨hp _ hm,diff_at h.diff k _ (List.getElem?_eq_getElem hk2),by have:=h.till _ hm;omega,?_⟩
 cases k with
 |zero=>rfl
 |succ j=>
  have hj:j<ss.length:=by omega
  have:=(List.pairwise_iff_getElem.1 h.rise) j (j+1) hj hk2 (by omega)
  unfold secOk
  simp only [List.getElem?_eq_getElem hj,List.getElem?_eq_getElem hk2]
  simp only [Bool.not_eq_true',decide_eq_false_iff_not];omega
theorem rawT_sub {rs rs':List Rule} (h:rs'.Sublist rs) (y:Int):(rawT rs' y).Sublist (rawT rs y):=by
 unfold rawT;exact h.filterMap _
theorem far_sub {rs rs':List Rule} (h:rs'.Sublist rs) {y:Int} (hf:FarY rs y):FarY rs' y:=
 ⟨hf.1.sublist (rawT_sub h y),fun a ha b hb=>hf.2 a ((rawT_sub h y).subset ha) b ((rawT_sub h (y - 1)).subset hb)⟩
theorem near_none {rs:List Rule} (hr:rulesB rs=true) (hf:∀ y,FarY rs y):∀ (n:Nat) (y:Int) (had:List Turn),(∀ a∈turnsL rs y,∀ b∈had,Far a b)->nearYears rs n y had=false
 |0,_,_,_=>rfl
 |n+1,y,had,hh=>by
  have hp:=turnsL_perm hr y;have hp1:=turnsL_perm hr (y+1);rw [nearYears,Bool.or_eq_false_iff]
  refine ⟨nearer_of ((hp.pairwise_iff (fun h=>Far.symm h)).2 (hf y).1) hh,near_none hr hf n (y+1) _ fun a ha b hb=>?_⟩
  have h2:=(hf (y+1)).2 a (hp1.subset ha)
  rw [show y+1 - 1=y from by omega] at h2
  exact h2 b (hp.subset hb)
theorem tail_near {rs:List Rule} (hr:rulesB rs=true) (hf:∀ y,FarY rs y):nearB rs=false:=by
 unfold nearB
 rw [near_none hr hf _ _ [] (fun _ _ _ h=>by simp at h)]
 simp
theorem tail_right {s:Src} (h:checkB s=noFlaw) {z:ZoneM} (hz:z∈s.zones):tailB (tableZ s z)=true:=by
 have hw:=zone_w h hz;have hs:=(clean_parts h).1;have hsz:=src_zones hs z hz;unfold zoneB at hsz;rw [Bool.and_eq_true] at hsz
 obtain ⟨e,hl⟩:∃ e,z.eras.getLast?=some e:=by
  cases hl:z.eras.getLast? with
  |none=>
   have:=List.getLast?_eq_none_iff.1 hl
   have h0:=hw.ne;rw [this] at h0;simp at h0
  |some e=>exact ⟨e,rfl⟩
 have hm:=List.mem_of_getLast? hl
 have ht:tailZ s.rules z.eras=(setL s.rules e.rules).filter fun r=>decide (r.hi=1000000):=by unfold tailZ;rw [hl]
 obtain ⟨T,hT⟩:∃ T,tailZ s.rules z.eras=T:=⟨_,rfl⟩
 have ho:offZ s.rules z.eras=if T.length=0 then 0 else e.off:=by unfold offZ;rw [hl];simp only [hT]
 have hfm:formatZ s.rules z.eras=if T.length=0 then ⟨#[]⟩ else e.format:=by unfold formatZ;rw [hl];simp only [hT]
 unfold tailB tableZ;simp only [tryOf,eraOf];rw [ho,hfm,hT]
 by_cases h0:T.length=0
 ·rw [if_pos h0,if_pos h0,if_pos h0,ByteArray.toList_eq]
  rfl
 ·rw [if_neg h0,if_neg h0,if_neg h0]
  have hsub:T.Sublist (setL s.rules e.rules):=by rw [<-hT,ht];exact List.filter_sublist
  have hk:e.kind=2:=by
   by_cases hk:e.kind=2
   ·exact hk
   ·exfalso
    have:=(era_ok h hz hm).none_ hk;rw [this] at hsub
    exact h0 (by rw [List.sublist_nil.1 hsub];rfl)
  have hlen:T.length<=2:=by
   have:=(set_ok h e.rules).2.2;unfold everN at this;rw [<-hT,ht];exact this
  have he:=hw.era e hm
  have hin:∀ r∈T,r∈setL s.rules e.rules/\r.hi=1000000:=fun r hr=>by
   rw [<-hT,ht] at hr;obtain ⟨h1,h2⟩:=List.mem_filter.1 hr
   exact ⟨h1,by simpa using h2⟩
  have hd:=(era_day h hz hm).2 hk;have hR:rulesB T=true:=List.all_eq_true.2 fun r hr=>List.all_eq_true.1 (src_right hs e.rules) r (hin r hr).1;have hN:nearB T=false:=tail_near hR fun y=>far_sub hsub (set_far h e.rules y)
  have hA:T.all (tailR e.off)=true:=List.all_eq_true.2 fun r hr=>by
   obtain ⟨h1,h2⟩:=hin r hr;have h3:=hd r h1
   have w2:wrap64 (e.off+r.save)=e.off+r.save:=by unfold wrap64;omega
   unfold tailR dayB;rw [w2,h2];simp [h3.1,h3.2]
  have hS:srcB ⟨T,[⟨z.name,[⟨e.off,0,0,⟨#[]⟩,e.format,false,0,⟨0,0,0,0,0,0⟩⟩],none,0⟩],[]⟩=true:=by
   unfold eraB at he;simp only [Bool.and_eq_true] at he;have hrr:T.all ruleR=true:=List.all_eq_true.2 fun r hr=>src_rules hs r (setL_mem.1 (hin r hr).1).1
   have h200:decide (200<T.length)=false:=decide_eq_false (by omega)
   simp [srcB,zoneB,erasOk,eraB,kindB,tillB,hsz.1,he.1.1,he.1.2,hrr,h200]
  rw [hA,hS,hN];simp [hlen]
theorem phOk_made {s:Src} (h:checkB s=noFlaw) {z:ZoneM} (hz:z∈s.zones):PhOk (madeZ s z).1.1:=by
 unfold madeZ
 exact eras_ph h hz _ _ _ _ _ (fun _ h=>h) (fun _ h=>by simp at h)
theorem table_right {s:Src} (h:checkB s=noFlaw) {z:ZoneM} (hz:z∈s.zones) (hn:cntE s.rules (svF s) (lastZ s.rules z.eras) everT z.eras<=29999):rightB (tableZ s z) (tailB (tableZ s z))=true:=by
 have hw:=zone_w h hz;have hy:=zone_year h hz
 obtain ⟨_,⟨e,hg⟩,hlen,_⟩:=zone_told (s:=s) (z:=z) (by omega) (by omega) (ends_ok h hz) (fun x hx=>era_ok h hz hx) hn
 have hsz:=src_zones (clean_parts h).1 z hz;unfold zoneB at hsz;rw [Bool.and_eq_true] at hsz
 have hf:phaseB (firstZ s.rules z.eras)=true:=by
  cases hz2:z.eras with
  |nil=>have:=hw.ne;rw [hz2] at this;simp at this
  |cons x es=>exact phaseE_ok h hz (by rw [hz2];simp) _
 unfold rightB;rw [tail_right h hz];have hsh:shiftsB (tableZ s z)=true:=shifts_right hg (phOk_made h hz);rw [hsh]
 have hl:decide ((30000:Int)<(tableZ s z).shifts.length)=false:=decide_eq_false (by show ¬ (30000:Int)<((madeZ s z).1.1.length:Nat);omega)
 rw [hl]
 show ((placeB z.name && (phaseB (firstZ s.rules z.eras) && (!false && true))) && true)=true
 rw [hsz.1,hf]
 rfl
end Cmq
end
end
section
section
namespace Cmq
open Go.RowKit Mem Civ Mom Img Plc Rul Ahd Src Snd Att Rgt Abr Sch
theorem tell_skip {t:Int}:∀ {l:List Shift} {p:Phase},(∀ s∈l,t<s.sec)->l.foldl (fun p s=>if s.sec<=t then s.ph else p) p=p
 |[],_,_=>rfl
 |a :: l,p,h=>by
  rw [List.foldl_cons,if_neg (by have:=h a (by simp);omega)]
  exact tell_skip fun s hs=>h s (by simp [hs])
theorem tell_at {first:Phase} {ss:List Shift} {t:Int} {n:Nat} (hn:n<=ss.length) (h1:∀ i (hi:i<ss.length),i<n->ss[i].sec<=t) (h2:∀ i (hi:i<ss.length),n<=i->t<ss[i].sec):tellL first ss t=hadAt first ss n:=by
 have e1:tellL first ss t=tellL first (ss.take n) t:=by
  conv=>lhs;rw [<-List.take_append_drop n ss]
  unfold tellL;rw [List.foldl_append]
  refine tell_skip fun s hs=>?_
  obtain ⟨i,hi,e⟩:=List.mem_iff_getElem.1 hs;rw [List.getElem_drop] at e;rw [<-e]
  exact h2 _ _ (by omega)
 have e2:tellL first (ss.take n) t=lastPh first (ss.take n):=tell_late fun s hs=>by
  obtain ⟨i,hi,e⟩:=List.mem_iff_getElem.1 hs;rw [List.getElem_take] at e;rw [<-e];rw [List.length_take] at hi
  exact h1 _ _ (by omega)
 rw [e1,e2]
 cases n with
 |zero=>rfl
 |succ k=>
  have hk:k<ss.length:=by omega
  rw [List.take_succ_eq_append_getElem hk,lastPh_snoc']
  simp only [hadAt,List.getElem?_eq_getElem hk,Option.map_some,Option.getD_some]
end Cmq
end
end
section
section
namespace Cmq
open Go.RowKit Mem Civ Mom Img Plc Rul Ahd Trn Src Snd Att Rgt Abr Sch
section
variable {S:List Rule} {off year:Int} (hr:rulesB S=true) (hf:∀ y,FarY S y) (h1: -86400<off) (h2:off<86400) (hl:lastY S<=year) (hy1:1<=year) (hy2:year<=10000)
include hl in
include hr in
include hr hl hy1 hy2 in
include hr hf hl hy1 hy2 in
include hr hf h1 h2 hl hy1 hy2 in
include hr h1 h2 hl hy1 hy2 in
end
end Cmq
end
end
section
section
namespace Cmq
open Go.RowKit Mem Civ Mom Img Plc Rul Ahd Trn Src Snd Att Rgt Abr
theorem compileP_no {s:Src} {i:Int} (h:¬ (checkB s=noFlaw/\0<=i/\i<s.zones.length)):compileP s i=(noTable,1):=by
 unfold compileP
 split
 ·next h1=>
  have hl:s.zones.length<=i.toNat:=by
   by_cases hl:i<s.zones.length
   ·exact absurd ⟨h1.1,h1.2,hl⟩ h
   ·omega
  rw [List.getElem?_eq_none hl]
 ·rfl
theorem turnsE_sav {s:Src} (h:checkB s=noFlaw) {z:ZoneM} (hz:z∈s.zones) {x:Era} (hx:x∈z.eras) {u:TurnU} (hu:u∈turnsE s.rules (lastZ s.rules z.eras) x):(-43200<=u.save/\u.save<=43200)/\u.letter.size<=2097152:=by
 have he:=era_ok h hz hx;have hy:=zone_year h hz
 have hk:x.kind=2:=by
  by_cases hk:x.kind=2
  ·exact hk
  ·exfalso
   unfold turnsE turnsP at hu;rw [he.none_ hk] at hu;simp at hu
 obtain ⟨l,l1,_,l3⟩:=turns_list (last:=lastZ s.rules z.eras+3) he.right he.crowd he.far he.off.1 he.off.2 (by have:=he.last;omega) (by omega)
 unfold turnsE at hu;rw [l1] at hu;obtain ⟨t,ht,rfl⟩:=List.mem_map.1 hu;obtain ⟨⟨r,hr,y,hy⟩,_⟩:=(l3 t).1 ht;obtain ⟨_,e1,e2,_⟩:=turnL_at hy;have hs:=rule_sav h hz hx hk hr
 show (-43200<=t.save/\t.save<=43200)/\t.letter.size<=2097152
 rw [e1,e2]
 exact ⟨hs.1,Nat.le_trans hs.2.2.2 (by decide)⟩
theorem compile_all (s:Src) (A A2 A3:Option Addr) (c c2 c3:Nat) (m i:Int) (w:World) (h:SrcOk s A A2 A3 w) (hm:w.cell? ⟨0,0,none⟩=some (.int .i64 m)):
  Calls prog 12 #[.agg #[.slice A s.rules.length c,.slice A2 s.zones.length c2,.slice A3 s.links.length c3],.int .i64 i] w (CompP (compileP s i).1 (compileP s i).2 w):=by
 by_cases hc:checkB s=noFlaw/\0<=i/\i<s.zones.length
 ·obtain ⟨hck,h0,hl⟩:=hc
  obtain ⟨n,rfl⟩:∃ n:Nat,i=(n:Int):=⟨i.toNat,by omega⟩
  have hn:n<s.zones.length:=by omega
  have hz:=List.getElem_mem hn;have hy:=zone_year hck hz;exact compile_yes s A A2 A3 c c2 c3 m n w h hm hck (clean_parts hck).1 hn (zone_w hck hz).ne (fun x hx=>era_w hck hz hx) hy.1 hy.2 (fun x hx u hu=>turnsE_sav hck hz hx hu)
 ·rw [compileP_no hc]
  exact compile_no s A A2 A3 c c2 c3 m i w h hm hc
theorem small_pw {p:Phase} (h:phaseB p=true):PW p:=by
 unfold phaseB dayB at h;simp only [Bool.and_eq_true,decide_eq_true_eq] at h;obtain ⟨_,⟨⟨⟨h1,h2⟩,h3⟩,h4⟩⟩:=h;unfold PW In64
 exact ⟨by omega,by omega,by omega⟩
theorem tabOk_right {x:Table} {A A2:Option Addr} {w:World} (h:rightB x (tailB x)=true) (rs:Reads w w.heap.size 4 A x.shifts.length (x.shifts.flatMap Shift.cells)) (rt:Reads w w.heap.size 11 A2 x.tail.length (x.tail.flatMap Rule.cells)):TabOk x A A2 w:=by
 unfold rightB at h;simp only [Bool.and_eq_true,Bool.not_eq_true',decide_eq_false_iff_not] at h;obtain ⟨⟨hn,hf,hl,ht⟩,hs⟩:=h
 have hname:x.name.size<=40:=by
  unfold placeB at hn;simp only [Bool.and_eq_true,decide_eq_true_eq] at hn;omega
 have hsh:∀ s∈x.shifts,PW s.ph:=fun s hs'=>by
  unfold shiftsB at hs;rw [List.all_eq_true] at hs;obtain ⟨k,hk,e⟩:=List.mem_iff_getElem.1 hs';have h1:=hs k (List.mem_range.2 hk);unfold okAt at h1
  rw [List.getElem?_eq_getElem hk,e] at h1
  simp only [Bool.and_eq_true] at h1
  first|exact small_pw h1.1|exact small_pw h1.1.1|exact small_pw h1.2.1|exact small_pw h1.1.1.1
 have htl:x.tail.length<=2/\x.format.size<=2097152/\∀ r∈x.tail,r.name.size<=2097152/\r.letter.size<=2097152:=by
  unfold tailB at ht
  split at ht
  ·next h0=>
   rw [Bool.and_eq_true] at ht;have e:=text_none ht.2;rw [e]
   refine ⟨by omega,by decide,fun r hr=>?_⟩
   rw [List.eq_nil_of_length_eq_zero h0] at hr;simp at hr
  ·simp only [Bool.and_eq_true,decide_eq_true_eq] at ht
   obtain ⟨_,h2,h3,_⟩:=ht;have hz:=src_zones h3 _ (List.mem_singleton.2 rfl);unfold zoneB at hz;simp only [Bool.and_eq_true] at hz
   have hw:=(erasOk_at hz.2.2.2 0 (by simp [tryOf]) (eraOf x) rfl).1
   refine ⟨h2,Nat.le_trans (era_parts hw).2.1 (by decide),fun r hr=>?_⟩
   have hr2:=src_rules h3 r hr;have hlt:=(letter_ok (ruleR_letter hr2)).2;have hnm:=(ruleR_parts hr2).1;unfold setB madeB at hnm;simp only [Bool.and_eq_true,decide_eq_true_eq] at hnm;have hsz:r.name.size=r.name.data.toList.length:=Lib.size_eq _
   exact ⟨by have:=hnm.1.2.2;omega,by omega⟩
 exact ⟨rs,rt,by omega,by omega,by omega,htl.2.1,small_pw hf,hsh,htl.2.2⟩
theorem compile_case {s:Src} {i:Int} (hy:YrsP s.rules) (hck:checkB s=noFlaw) (h0:0<=i) (hl:i<s.zones.length):∃ z,s.zones[i.toNat]?=some z/\z∈s.zones/\compileP s i=(tableZ s z,0)/\rightB (tableZ s z) (tailB (tableZ s z))=true/\cntE s.rules (svF s) (lastZ s.rules z.eras) everT z.eras<=29999:=by
 have hn:i.toNat<s.zones.length:=by omega
 have hz:=List.getElem_mem hn;have hc:=cnt_ok hck hz hy;have hyr:=zone_year hck hz
 obtain ⟨ho,_⟩:=zone_told (s:=s) (z:=s.zones[i.toNat]) (by omega) (by omega) (ends_ok hck hz) (fun x hx=>era_ok hck hz hx) hc
 refine ⟨_,List.getElem?_eq_getElem hn,hz,?_,table_right hck hz hc,hc⟩
 unfold compileP
 rw [if_pos ⟨hck,h0⟩,List.getElem?_eq_getElem hn]
 simp only
 rw [if_neg (by rw [ho];decide)]
def CompR (x:Table) (err:Int) (w:World) (e:Ending) (w':World):Prop:=
 ∃ A c A2 c2,e= .returned (.tuple #[.agg (tabCells x A c A2 c2),.int .i64 err])/\TabOk x A A2 w'/\Below w.heap.size w w'
theorem compile_read (s:Src) (A A2 A3:Option Addr) (c c2 c3:Nat) (m i:Int) (w:World) (h:SrcOk s A A2 A3 w) (hm:w.cell? ⟨0,0,none⟩=some (.int .i64 m)) (hy:checkB s=noFlaw->YrsP s.rules):
  Calls prog 12 #[.agg #[.slice A s.rules.length c,.slice A2 s.zones.length c2,.slice A3 s.links.length c3],.int .i64 i] w (CompR (compileP s i).1 (compileP s i).2 w):=by
 refine (compile_all s A A2 A3 c c2 c3 m i w h hm).mono ?_
 rintro e w' ⟨v,tv,rfl,ho,ht,hb⟩;obtain ⟨A',c',rfl⟩:=own_sl ho;obtain ⟨B',d',rfl⟩:=own_sl ht;have r1:=Reads.of_own ho;have r2:=Reads.of_own ht
 refine ⟨A',c',B',d',rfl,?_,hb⟩
 by_cases hc:checkB s=noFlaw/\0<=i/\i<s.zones.length
 ·obtain ⟨z,_,_,e,hr,_⟩:=compile_case (hy hc.1) hc.1 hc.2.1 hc.2.2
  rw [e] at r1 r2 ⊢;exact tabOk_right hr r1 r2
 ·rw [compileP_no hc] at r1 r2 ⊢
  exact ⟨r1,r2,by simp [noTable],by simp [noTable],by decide,by decide,⟨by unfold In64;decide,by unfold In64;decide,by decide⟩,by simp [noTable],by simp [noTable]⟩
end Cmq
end
end
end Go.Proofs.YtadamccojdocbaaGreatDoor
