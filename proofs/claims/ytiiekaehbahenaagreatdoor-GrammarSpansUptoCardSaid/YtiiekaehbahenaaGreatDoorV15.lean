/-
  Contracts of the code that the law reaches, and plain laws. Conditions: as each says.
-/
import Derived.Test.YtiiekaehbahenaaGreatDoorV14
set_option linter.all false
set_option maxHeartbeats 40000000
set_option maxRecDepth 100000
namespace Go.Proofs.YtiiekaehbahenaaGreatDoor
open Lib (hid)
open Tryz
section
section
namespace Gr
open Go.RowKit Mem Atl
theorem splitK_all (Q:UInt8->Bool) (c:UInt8):∀ (k:Nat) (s:List UInt8),(∀ p∈Lib.splitK [c] 0 k s,p.all Q=true)->s.all (fun x=>Q x || x == c)=true
 |0,s,h=>by
  have:=h s (by simp [Lib.splitK])
  rw [List.all_eq_true] at this ⊢
  exact fun x hx=>by rw [this x hx];rfl
 |k+1,s,h=>by
  rw [Lib.splitK] at h
  split at h
  ·have:=h s (by simp)
   rw [List.all_eq_true] at this ⊢
   exact fun x hx=>by rw [this x hx];rfl
  ·next hi=>
   rcases Lib.index_spec s [c] with ⟨e,_⟩|⟨i,e,hl,ho,_⟩
   ·rw [e] at hi;exact absurd rfl hi
   ·simp only [e,Int.toNat_natCast,Nat.add_zero,List.length_cons,List.length_nil,Nat.zero_add] at h
    have hd:s.drop i=c :: s.drop (i+1):=by
     unfold Lib.occAt at ho
     cases hs:s.drop i with
     |nil=>rw [hs] at ho;simp at ho
     |cons a t=>
      rw [hs] at ho;simp at ho;rw [<-List.drop_drop,hs,<-ho]
      rfl
    have h1:=h (s.take i) (by simp)
    have h2:=splitK_all Q c k (s.drop (i+1)) (fun p hp=>h p (List.mem_cons_of_mem _ hp));rw [<-List.take_append_drop i s,List.all_append,hd,List.all_cons,h2]
    have h3:(s.take i).all (fun x=>Q x || x == c)=true:=by
     rw [List.all_eq_true] at h1 ⊢
     exact fun x hx=>by rw [h1 x hx];rfl
    rw [h3];simp
theorem splitB_all' (Q:UInt8->Bool) (c:UInt8) (k:Nat) (s:ByteArray) (h:∀ p∈Lib.splitB ⟨#[c]⟩ 0 k s,(tx p).all Q=true):(tx s).all (fun x=>Q x || x == c)=true:=by
 refine splitK_all Q c k (tx s) (fun p hp=>?_)
 have e:=Lib.splitB_data ⟨#[c]⟩ 0 k s;rw [show (⟨#[c]⟩:ByteArray).data.toList=[c] from rfl] at e;rw [<-e,List.mem_map] at hp;obtain ⟨q,hq,rfl⟩:=hp;exact h q hq
theorem byte_all {f g:UInt8->Bool} (h:∀ n:Fin 256,(!f (UInt8.ofNat n.val) || g (UInt8.ofNat n.val))=true) (c:UInt8) (hf:f c=true):g c=true:=by
 have:=h ⟨c.toNat,c.toNat_lt⟩;simp only [UInt8.ofNat_toNat] at this;rw [hf] at this
 simpa using this
theorem val_all {l:Txt} (h:valL l=true):l.all ordB=true:=by
 unfold valL valB at h;rw [List.all_eq_true] at h
 have h2:=splitB_all' valC 45 _ _ (fun p hp=>by
  have:=h p hp;unfold valP at this;rw [Bool.and_eq_true] at this
  exact this.1)
 rw [List.all_eq_true] at h2 ⊢;intro c hc
 have h3:(valC c || c == 45)=true:=h2 c hc
 refine byte_all (f:=fun c=>valC c || c == 45) (g:=ordB) ?_ c h3
 set_option maxRecDepth 100000 in decide
theorem made_all {l others:Txt} {most:Int} (h:Plc.madeB l most others=true) (ho:others.all ordB=true):l.all ordB=true:=by
 unfold Plc.madeB at h;rw [Bool.and_eq_true] at h;rw [List.all_eq_true];have h1:=h.1;rw [List.all_eq_true] at h1;intro c hc;have h2:=h1 c hc;unfold Plc.okB at h2;rw [Bool.or_eq_true,Bool.or_eq_true] at h2;simp only [ordB,Bool.and_eq_true,decide_eq_true_eq]
 rcases h2 with (h2|h2)|h2
 ·unfold Plc.letterI at h2
  simp only [Bool.or_eq_true,Bool.and_eq_true,decide_eq_true_eq] at h2;omega
 ·simp only [Bool.and_eq_true,Bool.not_eq_true',decide_eq_false_iff_not] at h2
  omega
 ·rw [idx_has] at h2
  simp only [Bool.not_not] at h2;rw [List.all_eq_true] at ho
  have:=ho c (by simpa using h2)
  simpa [ordB] using this
theorem fixed_all {l:Txt} (h:(fixedB l).isSome=true):l.all ordB=true:=by
 have pr:∀ a b k,(twoP a b k).2=true->ordB a=true/\ordB b=true:=by
  intro a b k h;unfold twoP at h
  split at h
  ·next hp=>
   unfold pairOk at hp;simp only [Bool.and_eq_true,Bool.not_eq_true',decide_eq_false_iff_not] at hp;simp only [ordB,Bool.and_eq_true,decide_eq_true_eq];omega
  ·cases h
 have sg:∀ c,signQ c=true->ordB c=true:=by
  intro c h;unfold signQ at h;simp only [Bool.or_eq_true,beq_iff_eq] at h;simp only [ordB,Bool.and_eq_true,decide_eq_true_eq];omega
 have co:∀ c:UInt8,((c.toNat:Int) == 58)=true->ordB c=true:=by
  intro c h;rw [beq_iff_eq] at h;simp only [ordB,Bool.and_eq_true,decide_eq_true_eq];omega
 unfold fixedB at h
 split at h
 ·split at h
  ·next hq=>
   simp only [Bool.and_eq_true] at hq;obtain ⟨⟨h1,h2⟩,h3,h4⟩:=hq;obtain ⟨p1,p2⟩:=pr _ _ _ h3;obtain ⟨p3,p4⟩:=pr _ _ _ h4;simp [sg _ h1,co _ h2,p1,p2,p3,p4]
  ·cases h
 ·split at h
  ·next hq=>
   simp only [Bool.and_eq_true] at hq;obtain ⟨⟨⟨h1,h2⟩,h5⟩,⟨h3,h4⟩,h6⟩:=hq;obtain ⟨p1,p2⟩:=pr _ _ _ h3;obtain ⟨p3,p4⟩:=pr _ _ _ h4;obtain ⟨p5,p6⟩:=pr _ _ _ h6;simp [sg _ h1,co _ h2,co _ h5,p1,p2,p3,p4,p5,p6]
  ·cases h
 ·cases h
theorem name_all {l:Txt} (h:nameB l=true):l.all ordB=true:=by
 unfold nameB at h;rw [Bool.or_eq_true] at h
 rcases h with h|h
 ·exact fixed_all h
 ·unfold Plc.placeB at h
  rw [Bool.and_eq_true,List.all_eq_true] at h
  have h2:=splitB_all' ordB 47 _ _ (fun p hp=>made_all (h.1 p hp) (by decide))
  rw [List.all_eq_true] at h2 ⊢;intro c hc
  have h3:(ordB c || c == 47)=true:=h2 c hc
  rw [Bool.or_eq_true,beq_iff_eq] at h3
  rcases h3 with h3|rfl
  ·exact h3
  ·decide
theorem notes_vals {l:Txt}:∀ {f i:Nat} {first:Bool} {zone:Txt} {out:List NoteT} {x:(Txt×List NoteT)×Nat},notesA nameB valL l f i first zone out=some x->(∀ n∈out,valL n.value=true)->∀ n∈x.1.2,valL n.value=true
 |0,i,first,zone,out,x,e,h=>by cases e
 |f+1,i,first,zone,out,x,e,h=>by
  rw [notesA] at e
  split at e
  ·obtain ⟨b,hb,e⟩:=Option.bind_eq_some_iff.1 e
   split at e
   ·exact notes_vals e h
   ·split at e
    ·next h1=>
     simp only [Bool.and_eq_true] at h1
     refine notes_vals e (fun n hn=>?_)
     rcases List.mem_append.1 hn with hn|hn
     ·exact h n hn
     ·rw [List.mem_singleton] at hn
      subst hn;exact h1.2.2
    ·cases e
  ·cases e;exact h
theorem tl_eq (a b:ByteArray):(a.toList == b.toList)=(tx a == tx b):=by rw [ByteArray.toList_eq,ByteArray.toList_eq]
theorem note_cells {w:World} {B n:Nat} {A:Option Addr} {ss:List NoteT} (h:Reads w B 3 A n (ss.flatMap NoteT.cells)) {k:Nat} (hk:k<ss.length) (hn:ss.length=n):
  ∃ ad,A=some ad/\ad.block<B/\w.cell? (ad.add (k*3))=some (.string ⟨ss[k].key.toArray⟩)/\w.cell? ⟨(ad.add (k*3)).block,(ad.add (k*3)).off+1,none⟩=some (.string ⟨ss[k].value.toArray⟩)/\w.cell? ⟨(ad.add (k*3)).block,(ad.add (k*3)).off+2,none⟩=some (.bool ss[k].sharp):=by
 obtain ⟨ad,e,hb,hc⟩:=h.2 (by omega)
 have g:∀ j,j<3->(ss.flatMap NoteT.cells)[k*3+j]?=(NoteT.cells ss[k])[j]?:=fun j hj=>by
  rw [Img.flat_get NoteT.cells 3 (fun _=>rfl) ss k j hj,List.getElem?_eq_getElem hk];rfl
 refine ⟨ad,e,hb,hc (k*3) _ (g 0 (by omega)),?_,?_⟩
 ·rw [<-Img.add_pos _ (by omega:0<1),add_of_add];exact hc _ _ (g 1 (by omega))
 ·rw [<-Img.add_pos _ (by omega:0<2),add_of_add];exact hc _ _ (g 2 (by omega))
def ucaQ (n:NoteT):Bool:=n.key == ucaL
theorem cal_hit {l:List NoteT} {k:Nat} (hk:k<l.length) (h1:ucaQ l[k]=false) (h2:l[k].sharp=true):calA l=19:=by
 unfold calA;rw [if_pos];rw [List.any_eq_true]
 refine ⟨l[k],List.getElem_mem hk,?_⟩
 unfold ucaQ at h1;rw [Bool.and_eq_true]
 exact ⟨by rw [bne,h1];rfl,h2⟩
def calM (mine:List NoteT) (sharp:Bool):Nat:=if 1<mine.length/\sharp=true then 19 else match mine with
 |[]=>0
 |n :: _=>if Lib.equalFold n.value isoL=true then 0 else 8
theorem cal_end {l mine:List NoteT} {sharp:Bool} (h:∀ n∈l,ucaQ n=false->n.sharp=false) (hm:l.filter ucaQ=mine) (hs:mine.any (·.sharp)=sharp):
  calA l=calM mine sharp:=by
 subst hm hs;unfold calA;rw [if_neg]
 ·rfl
 ·rw [List.any_eq_true]
  rintro ⟨n,hn,hb⟩;rw [Bool.and_eq_true] at hb
  have:=h n hn (by unfold ucaQ;have:=hb.1;rw [bne,Bool.not_eq_true'] at this;exact this)
  rw [this] at hb
  cases hb.2
theorem uca_list:tx (⟨#[117,45,99,97]⟩:ByteArray)=ucaL:=rfl
theorem iso_list:(⟨#[105,115,111,56,54,48,49]⟩:ByteArray).data.toList=isoL:=rfl
theorem ord_128 {l:Txt} (h:l.all ordB=true):∀ (j:Nat) (b:UInt8),l[j]?=some b->b.toNat<128:=by
 intro j b hb;rw [List.all_eq_true] at h;have:=h b (List.mem_of_getElem? hb);simp only [ordB,Bool.and_eq_true,decide_eq_true_eq] at this;omega
theorem calendar_any (l:List NoteT) (A:Option Addr) (c:Nat) (w:World) (h:Reads w w.heap.size 3 A l.length (l.flatMap NoteT.cells)) (hn:l.length<=2097152) (hv:∀ n∈l,valL n.value=true/\n.value.length<=2097152):
  Calls prog 44 #[.slice A l.length c] w fun e w'=>e= .returned (.int .i64 (calA l))/\Below w.heap.size w w':=by
 obtain ⟨i0,hi0,hz0,hz1,hz2⟩:=info_parts info_note;have HR:=hid h;have HV:=hid hv;clear h hv;go_enter func44,ntmps44
 go_wp2_with fail
 go_loopw [3,4,9] (fun v b i wr=>∃ (k:Nat) (mine:List NoteT) (sharp:Bool),k<=l.length/\i= .int .i64 k/\b= .bool sharp/\(l.take k).filter ucaQ=mine/\mine.any (·.sharp)=sharp/\(∀ n∈l.take k,ucaQ n=false->n.sharp=false)/\wr.ownsRow w.heap.size 139 3 v mine.length (mine.flatMap NoteT.cells)/\Below w.heap.size w wr) (fun _ _ i _=>l.length - (intOf i).toNat)
 case atStart=>exact ⟨0,[],false,Nat.zero_le _,rfl,rfl,rfl,rfl,fun n hn=>by simp at hn,World.ownsRow_nil _ _ _ _,Below.refl _ _⟩
 case round=>
  obtain ⟨k,mine,sharp,hk,rfl,rfl,hmine,hsh,hno,hown,hb⟩:=hrel;have HM:=hid hmine;have HSh:=hid hsh;have HNo:=hid hno;have HO:=hid hown;have HB:=hid hb
  have hml:mine.length<=l.length:=by rw [<-hmine];exact Nat.le_trans (List.length_filter_le _ _) (by rw [List.length_take];omega)
  have hsz:=hb.size;clear hmine hsh hno hown hb
  by_cases hkn:k<l.length
  ·obtain ⟨ad,hA,hadb,a0,a1,a2⟩:=note_cells (HR.out.below HB.out) hkn rfl
   subst hA;have htk:=List.take_succ_eq_append_getElem hkn;have Htk:=hid htk;have Hhit:=hid (fun h1 h2=>cal_hit hkn h1 h2);have hq:=tl_eq ⟨l[k].key.toArray⟩ ⟨#[117,45,99,97]⟩
   rw [uca_list,show tx ⟨l[k].key.toArray⟩=l[k].key from rfl,show (l[k].key == ucaL)=ucaQ l[k] from rfl,show (⟨#[117,45,99,97]⟩:ByteArray).toList=[117,45,99,97] from by rw [ByteArray.toList_eq]] at hq
   obtain ⟨x,hx⟩:∃ x,l[k]=x:=⟨_,rfl⟩;rw [hx] at a0 a1 a2 hq Hhit Htk;clear htk hx;obtain ⟨q,hqq⟩:∃ q,ucaQ x=q:=⟨_,rfl⟩;have Hq:=hid hqq;rw [hqq] at hq;obtain ⟨key,val,sh⟩:=x;simp only at a0 a1 a2 hq Hhit;clear hqq;obtain ⟨kb,hkb⟩:∃ x:ByteArray,⟨key.toArray⟩=x:=⟨_,rfl⟩;obtain ⟨vb,hvb⟩:∃ x:ByteArray,⟨val.toArray⟩=x:=⟨_,rfl⟩;have Hkb:=hid hkb;have Hvb:=hid hvb;rw [hkb] at a0 hq;rw [hvb] at a1;clear hkb hvb
   cases q
   ·cases sh
    ·go_wp2_with fail
     refine ⟨⟨k+1,mine,sharp,by omega,by go_num,rfl,?_,HSh.out,?_,HO.out.alloc _,HB.out.alloc hsz _⟩,by simp [intOf];omega⟩
     ·rw [Htk.out,List.filter_append,HM.out,List.filter_cons,Hq.out];simp
     ·intro n hn h2
      rw [Htk.out] at hn
      rcases List.mem_append.1 hn with hn|hn
      ·exact HNo.out n hn h2
      ·rw [List.mem_singleton] at hn;subst hn;rfl
    ·go_wp2_with fail
     go_ret
     exact ⟨by rw [Hhit.out Hq.out (by trivial)];rfl,HB.out.alloc hsz _⟩
   ·have M1:=hid (show mine.length+1<=maxLen from by unfold maxLen;omega)
    have M2:=hid (show (mine.length+1)*40<=140737488355328 from by omega)
    have HOa:=hid (HO.out.alloc (.cells #[.string kb,.string vb,.bool sh] 139));have HBa:=hid (HB.out.alloc hsz (.cells #[.string kb,.string vb,.bool sh] 139));have HSa:=hid HBa.out.size;have Hlt:=hid (fun j hj=>HO.out.lt j hj)
    cases sharp
    all_goals
     go_wp2_with ((at_builtin;refine wpList_append1g (wr.alloc (.cells #[.string kb,.string vb,.bool sh] 139)) rfl (.tmp 17) (.tmp 19) 81 rfl w.heap.size 139 i0 _ 3 40 underlying81 hi0 hz0 hz1 hz2 rfl (by decide) _ mine.length (mine.flatMap NoteT.cells) rfl HOa.out (by simp [Act.eval]) rfl note_one M1.out M2.out HSa.out ?_;intro v' wB hown8 hg8;have HO2:=hid hown8;have HB2:=hid ((HBa.out.alloc HSa.out _).grown hg8 (by simp;have:=HSa.out;simp at this;omega) (fun j hj=>(HOa.out.lt j hj).1));have b8:=Blk.grown ((Blk.new wr 139 #[.string kb,.string vb,.bool sh]).alloc (.cells #[.string kb,.string vb,.bool sh] 139)) hg8 (fun e=>absurd (Hlt.out _ e.symm).2 (Nat.lt_irrefl _));have c8:=b8.cell 2;clear hown8 hg8 b8))
     refine ⟨⟨k+1,mine++[⟨key,val,sh⟩],_,by omega,by go_num,rfl,?_,?_,?_,?_,HB2.out⟩,by simp [intOf];omega⟩
     ·rw [Htk.out,List.filter_append,HM.out,List.filter_cons,Hq.out];rfl
     ·rw [List.any_append,HSh.out];simp
     ·intro n hn h2
      rw [Htk.out] at hn
      rcases List.mem_append.1 hn with hn|hn
      ·exact HNo.out n hn h2
      ·rw [List.mem_singleton] at hn;subst hn;rw [Hq.out] at h2;cases h2
     ·have:=HO2.out
      rw [<-Hkb.out,<-Hvb.out] at this;rw [List.length_append,List.flatMap_append]
      simpa [NoteT.cells] using this
  ·obtain rfl:k=l.length:=by omega
   have hm:=HM.out;have hno:=HNo.out;rw [List.take_length] at hm hno;have HC:=hid (cal_end hno hm HSh.out)
   have HVm:=hid (show ∀ n∈mine,valL n.value=true/\n.value.length<=2097152 from fun n hn=>HV.out n (by rw [<-hm] at hn;exact (List.mem_filter.1 hn).1))
   clear hm hno HM HNo HSh HV HR
   cases mine with
   |nil=>
    obtain ⟨A',c',hv⟩:∃ A' c',u3= .slice A' 0 c':=by
     rcases HO.out.2 with ⟨hv,_⟩|⟨g,cap,cur,hv,_⟩
     ·exact ⟨_,_,hv⟩
     ·exact ⟨_,_,hv⟩
    subst hv;go_wp2;go_ret
    exact ⟨by rw [HC.out];rfl,HB.out⟩
   |cons n r=>
    obtain ⟨g,cap,hv,_,_⟩:=HO.out.form (Nat.succ_pos _);subst hv
    have hc1:=HO.out.cellAt 1 (by simp only [List.length_cons];omega)
    rw [show (List.flatMap NoteT.cells (n :: r))[1]?=some (.string ⟨n.value.toArray⟩) from rfl] at hc1;obtain ⟨hv1,hv2⟩:=HVm.out n (List.mem_cons_self ..)
    have HE:=hid (fun z=>Tryz.strings_EqualFold ⟨n.value.toArray⟩ ⟨#[105,115,111,56,54,48,49]⟩ z (by show n.value.length<_;omega) (ord_128 (val_all hv1)) (ord_128 (by decide)))
    rw [show (⟨n.value.toArray⟩:ByteArray).data.toList=n.value from rfl,iso_list] at HE;have hcm:=HC.out;unfold calM at hcm;obtain ⟨ef,hef⟩:∃ b,Lib.equalFold n.value isoL=b:=⟨_,rfl⟩;rw [hef] at HE;simp only [hef,List.length_cons] at hcm;have hml:(n :: r).length=r.length+1:=rfl;obtain ⟨rn,hrn⟩:∃ x,r.length=x:=⟨_,rfl⟩;rw [hrn] at hcm;simp only [hml,hrn];have HC2:=hid hcm
    have hrn9:rn<=2097152:=by simp only [List.length_cons] at hml;simp only [List.length_cons,hrn] at *;omega
    clear hcm hv1 hv2 HVm HC hml hef
    have hcap:rn+1<=cap:=by
     rcases HO.out.2 with ⟨h',_⟩|⟨g',cap',cur,h',_,_,hnc,_⟩
     ·cases h'
     ·injection h' with _ _ h3
      rw [h3]
      simpa [hrn] using hnc
    have HRN:=hid hrn;clear hrn
    cases rn with
    |zero=>
     have hc:=HC2.out
     rw [if_neg (by omega)] at hc
     cases ef
     all_goals
      have HC3:=hid hc;clear hc
      go_wp2_with (go_at_call 88;refine (HE.out _).mono ?_;rintro e w1 ⟨rfl,rfl⟩)
      go_ret
      exact ⟨by rw [HC3.out];rfl,HB.out⟩
    |succ rn=>
     cases sharp
     ·have hc:=HC2.out
      rw [if_neg (by simp)] at hc
      cases ef
      all_goals
       have HC3:=hid hc;clear hc
       go_wp2_with (go_at_call 88;refine (HE.out _).mono ?_;rintro e w1 ⟨rfl,rfl⟩)
       go_ret
       exact ⟨by rw [HC3.out];rfl,HB.out⟩
     ·have hc:=HC2.out
      rw [if_pos ⟨by omega,rfl⟩] at hc
      have HC3:=hid hc;clear hc;go_wp2;go_ret
      exact ⟨by rw [HC3.out];rfl,HB.out⟩
end Gr
end
end
section
section
namespace Civ
open Go.RowKit Mem
def Fl (a b:Int):Prop:=(0<=a.tmod b->a.tdiv b=a / b/\a.tmod b=a % b)/\(a.tmod b<0->a.tdiv b - 1=a / b/\a.tmod b+b=a % b)/\(-b<a.tmod b/\a.tmod b<b)/\(-1000000000000000<=a.tdiv b/\a.tdiv b<=1000000000000000)/\0<b/\b<=1000000000000
theorem tneg (a b:Int):a.tdiv b= -((-a).tdiv b)/\a.tmod b= -((-a).tmod b):=by
 rw [Int.neg_tdiv,Int.neg_tmod];omega
theorem fl_400 (a:Int) (ha: -1000000000000000<=a/\a<=1000000000000000):Fl a 400:=by
 unfold Fl
 rcases Int.le_total 0 a with h|h
 ·rw [Int.tdiv_eq_ediv_of_nonneg h,Int.tmod_eq_emod_of_nonneg h];omega
 ·rw [(tneg a 400).1,(tneg a 400).2,Int.tdiv_eq_ediv_of_nonneg (by omega),Int.tmod_eq_emod_of_nonneg (by omega)];omega
theorem fl_era (a:Int) (ha: -1000000000000000<=a/\a<=1000000000000000):Fl a 146097:=by
 unfold Fl
 rcases Int.le_total 0 a with h|h
 ·rw [Int.tdiv_eq_ediv_of_nonneg h,Int.tmod_eq_emod_of_nonneg h];omega
 ·rw [(tneg a 146097).1,(tneg a 146097).2,Int.tdiv_eq_ediv_of_nonneg (by omega),Int.tmod_eq_emod_of_nonneg (by omega)];omega
theorem fl_7 (a:Int) (ha: -1000000000000000<=a/\a<=1000000000000000):Fl a 7:=by
 unfold Fl
 rcases Int.le_total 0 a with h|h
 ·rw [Int.tdiv_eq_ediv_of_nonneg h,Int.tmod_eq_emod_of_nonneg h];omega
 ·rw [(tneg a 7).1,(tneg a 7).2,Int.tdiv_eq_ediv_of_nonneg (by omega),Int.tmod_eq_emod_of_nonneg (by omega)];omega
def leapB (y:Int):Bool:=y % 4 == 0 && (!(y % 100 == 0) || y % 400 == 0)
theorem tz (y k:Int):(y.tmod k == 0)=(y % k == 0):=by
 rw [Bool.eq_iff_iff,beq_iff_eq,beq_iff_eq,<-Int.dvd_iff_tmod_eq_zero,<-Int.dvd_iff_emod_eq_zero]
theorem leap_any (y:Int) (w:World):Calls prog 87 #[.int .i64 y] w fun e w'=>e= .returned (.bool (leapB y))/\w=w':=by
 have h1:=tz y 4;have h2:=tz y 100;have h3:=tz y 400
 have h4:(y.tmod 100 != 0)= !(y % 100 == 0):=by rw [<-h2];rfl
 unfold leapB;generalize (y % 4 == 0)=c1 at*;generalize (y % 100 == 0)=c2 at*;generalize (y % 400 == 0)=c3 at*;go_enter func87,ntmps87
 cases c1<;>cases c2<;>cases c3
 all_goals
  go_wp2;go_ret;exact ⟨rfl,rfl⟩
def mlen (y m:Int):Int:=if m<1\/12<m then 0 else if m=2 then (if leapB y=true then 29 else 28) else if m=4\/m=6\/m=9\/m=11 then 30 else 31
theorem mlen_bd (y m:Int):0<=mlen y m/\mlen y m<=31:=by
 unfold mlen
 split
 ·omega
 ·split
  ·split<;>omega
  ·split<;>omega
theorem monthLen_any (y m:Int) (w:World):Calls prog 43 #[.int .i64 y,.int .i64 m] w fun e w'=>e= .returned (.int .i64 (mlen y m))/\Below w.heap.size w w':=by
 have hb:Below w.heap.size w (w.alloc (.cells #[.int .i64 0,.int .i64 31,.int .i64 28,.int .i64 31,.int .i64 30,.int .i64 31,.int .i64 30,.int .i64 31,.int .i64 31,.int .i64 30,.int .i64 31,.int .i64 30,.int .i64 31] 140)):=(Below.refl _ _).alloc (Nat.le_refl _) _
 by_cases h1:m<1
 ·have e:mlen y m=0:=if_pos (.inl h1)
  rw [e];clear e;go_enter func43,ntmps43;go_wp2;go_ret;exact ⟨rfl,hb⟩
 ·by_cases h2:12<m
  ·have e:mlen y m=0:=if_pos (.inr h2)
   rw [e];clear e;go_enter func43,ntmps43;go_wp2;go_ret;exact ⟨rfl,hb⟩
  ·by_cases h3:m=2
   ·subst h3
    obtain ⟨q,hq⟩:∃ q,leapB y=q:=⟨_,rfl⟩
    have e:mlen y 2=if q=true then 29 else 28:=by rw [<-hq];rfl
    have Hl:=hid (leap_any y);rw [hq] at Hl;rw [e];clear e hq;go_enter func43,ntmps43
    cases q
    all_goals
     go_wp2_with (go_at_call 87;refine (Hl.out _).mono ?_;rintro e w1 ⟨rfl,rfl⟩)
     go_ret;exact ⟨rfl,hb⟩
   ·have hm:m=1\/m=3\/m=4\/m=5\/m=6\/m=7\/m=8\/m=9\/m=10\/m=11\/m=12:=by omega
    have hm2:(m == 2)=false:=by simpa using h3
    rcases hm with rfl|rfl|rfl|rfl|rfl|rfl|rfl|rfl|rfl|rfl|rfl
    all_goals
     go_enter func43,ntmps43;go_wp2;go_ret;exact ⟨rfl,hb⟩
end Civ
namespace Civ
open Go.RowKit Mem
def One (w:World) (b:Nat) (t:TypeId) (cs:Array Value) (w1:World):Prop:=Blk w1 b t cs/\Below w.heap.size w w1
theorem One.step {w w1 w2:World} {b:Nat} {t:TypeId} {cs:Array Value} (h:One w b t cs w1) (hb:Below w1.heap.size w1 w2):One w b t cs w2:=⟨h.1.below hb h.1.lt,h.2.trans (hb.mono h.2.size)⟩
theorem One.drew {w w1:World} {b:Nat} {t:TypeId} {cs:Array Value} (h:One w b t cs w1):One w b t cs w1.drew:=⟨h.1.drew,h.2.drew⟩
theorem One.new (w:World) (t:TypeId) (cs:Array Value):One w w.heap.size t cs (w.alloc (.cells cs t)):=⟨Blk.new w t cs,(Below.refl _ _).alloc (Nat.le_refl _) _⟩
theorem below_dr {B:Nat} {a w:World} {n:Nat} (h:Below B a w):Below B a (w.drewN n):=⟨h.os,h.tape,h.output,h.size,h.block⟩
theorem below_same {w w':World} (h:w=w'):Below w.heap.size w w':=by subst h;exact Below.refl _ _
theorem below_drs {w w':World} (h:∃ n,w'=w.drewN n):Below w.heap.size w w':=by obtain ⟨n,rfl⟩:=h;exact below_dr (Below.refl _ _)
def countI (y m d:Int):Int:=
 let a:=if m<3 then y - 1 else y
 let k:=if m<3 then m+9 else m - 3
 a / 400*146097+a % 400*365+a % 400 / 4 - a % 400 / 100+(153*k+2) / 5+d - 1 - 719468
def daysO (y m d:Int):Option Int:=
 if y< -271821\/275760<y\/d<1\/mlen y m<d then none
 else if countI y m d< -100000001\/100000000<countI y m d then none else some (countI y m d)
theorem mlen_m {y m d:Int} (h1:1<=d) (h2:d<=mlen y m):1<=m/\m<=12:=by
 unfold mlen at h2
 split at h2<;>omega
def dayV (r:Option Int):Value:=match r with
 |some n=> .tuple #[.int .i64 n,.bool true]
 |none=> .tuple #[.int .i64 0,.bool false]
end Civ
end
end
end Go.Proofs.YtiiekaehbahenaaGreatDoor
