/-
  Contracts of the code that the law reaches, and plain laws. Conditions: as each says.
-/
import Derived.Test.YtiiekaehbahenaaGreatDoorV16
set_option linter.all false
set_option maxHeartbeats 40000000
set_option maxRecDepth 100000
namespace Go.Proofs.YtiiekaehbahenaaGreatDoor
open Lib (hid)
open Tryz
section
namespace Gr
open Go.RowKit Mem Atl
theorem splitK_all (Q:UInt8->Bool) (c:UInt8):∀ (k:Nat) (s:List UInt8),(∀ p∈Lib.splitK [c] 0 k s,p.all Q=true)->s.all (fun x=>Q x || x == c)=true
 |0,s,h=>by
  have:=h s (by simp [Lib.splitK])
  rw [List.all_eq_true] at this ⊢
  exact fun x hx=>by rw [this x hx];rfl
 |k+1,s,h=>by
  rw [Lib.splitK] at h
  split at h
  ·have:=h s (by simp)
   rw [List.all_eq_true] at this ⊢
   exact fun x hx=>by rw [this x hx];rfl
  ·next hi=>
   rcases Lib.index_spec s [c] with ⟨e,_⟩|⟨i,e,hl,ho,_⟩
   ·rw [e] at hi;exact absurd rfl hi
   ·simp only [e,Int.toNat_natCast,Nat.add_zero,List.length_cons,List.length_nil,Nat.zero_add] at h
    have hd:s.drop i=c :: s.drop (i+1):=by
     unfold Lib.occAt at ho
     cases hs:s.drop i with
     |nil=>rw [hs] at ho;simp at ho
     |cons a t=>
      rw [hs] at ho;simp at ho;rw [<-List.drop_drop,hs,<-ho]
      rfl
    have h1:=h (s.take i) (by simp)
    have h2:=splitK_all Q c k (s.drop (i+1)) (fun p hp=>h p (List.mem_cons_of_mem _ hp));rw [<-List.take_append_drop i s,List.all_append,hd,List.all_cons,h2]
    have h3:(s.take i).all (fun x=>Q x || x == c)=true:=by
     rw [List.all_eq_true] at h1 ⊢
     exact fun x hx=>by rw [h1 x hx];rfl
    rw [h3];simp
theorem splitB_all' (Q:UInt8->Bool) (c:UInt8) (k:Nat) (s:ByteArray) (h:∀ p∈Lib.splitB ⟨#[c]⟩ 0 k s,(tx p).all Q=true):(tx s).all (fun x=>Q x || x == c)=true:=by
 refine splitK_all Q c k (tx s) (fun p hp=>?_)
 have e:=Lib.splitB_data ⟨#[c]⟩ 0 k s;rw [show (⟨#[c]⟩:ByteArray).data.toList=[c] from rfl] at e;rw [<-e,List.mem_map] at hp;obtain ⟨q,hq,rfl⟩:=hp;exact h q hq
theorem byte_all {f g:UInt8->Bool} (h:∀ n:Fin 256,(!f (UInt8.ofNat n.val) || g (UInt8.ofNat n.val))=true) (c:UInt8) (hf:f c=true):g c=true:=by
 have:=h ⟨c.toNat,c.toNat_lt⟩;simp only [UInt8.ofNat_toNat] at this;rw [hf] at this
 simpa using this
theorem val_all {l:Txt} (h:valL l=true):l.all ordB=true:=by
 unfold valL valB at h;rw [List.all_eq_true] at h
 have h2:=splitB_all' valC 45 _ _ (fun p hp=>by
  have:=h p hp;unfold valP at this;rw [Bool.and_eq_true] at this
  exact this.1)
 rw [List.all_eq_true] at h2 ⊢;intro c hc
 have h3:(valC c || c == 45)=true:=h2 c hc
 refine byte_all (f:=fun c=>valC c || c == 45) (g:=ordB) ?_ c h3
 set_option maxRecDepth 100000 in decide
theorem made_all {l others:Txt} {most:Int} (h:Plc.madeB l most others=true) (ho:others.all ordB=true):l.all ordB=true:=by
 unfold Plc.madeB at h;rw [Bool.and_eq_true] at h;rw [List.all_eq_true];have h1:=h.1;rw [List.all_eq_true] at h1;intro c hc;have h2:=h1 c hc;unfold Plc.okB at h2;rw [Bool.or_eq_true,Bool.or_eq_true] at h2;simp only [ordB,Bool.and_eq_true,decide_eq_true_eq]
 rcases h2 with (h2|h2)|h2
 ·unfold Plc.letterI at h2
  simp only [Bool.or_eq_true,Bool.and_eq_true,decide_eq_true_eq] at h2;omega
 ·simp only [Bool.and_eq_true,Bool.not_eq_true',decide_eq_false_iff_not] at h2
  omega
 ·rw [idx_has] at h2
  simp only [Bool.not_not] at h2;rw [List.all_eq_true] at ho
  have:=ho c (by simpa using h2)
  simpa [ordB] using this
theorem fixed_all {l:Txt} (h:(fixedB l).isSome=true):l.all ordB=true:=by
 have pr:∀ a b k,(twoP a b k).2=true->ordB a=true/\ordB b=true:=by
  intro a b k h;unfold twoP at h
  split at h
  ·next hp=>
   unfold pairOk at hp;simp only [Bool.and_eq_true,Bool.not_eq_true',decide_eq_false_iff_not] at hp;simp only [ordB,Bool.and_eq_true,decide_eq_true_eq];omega
  ·cases h
 have sg:∀ c,signQ c=true->ordB c=true:=by
  intro c h;unfold signQ at h;simp only [Bool.or_eq_true,beq_iff_eq] at h;simp only [ordB,Bool.and_eq_true,decide_eq_true_eq];omega
 have co:∀ c:UInt8,((c.toNat:Int) == 58)=true->ordB c=true:=by
  intro c h;rw [beq_iff_eq] at h;simp only [ordB,Bool.and_eq_true,decide_eq_true_eq];omega
 unfold fixedB at h
 split at h
 ·split at h
  ·next hq=>
   simp only [Bool.and_eq_true] at hq;obtain ⟨⟨h1,h2⟩,h3,h4⟩:=hq;obtain ⟨p1,p2⟩:=pr _ _ _ h3;obtain ⟨p3,p4⟩:=pr _ _ _ h4;simp [sg _ h1,co _ h2,p1,p2,p3,p4]
  ·cases h
 ·split at h
  ·next hq=>
   simp only [Bool.and_eq_true] at hq;obtain ⟨⟨⟨h1,h2⟩,h5⟩,⟨h3,h4⟩,h6⟩:=hq;obtain ⟨p1,p2⟩:=pr _ _ _ h3;obtain ⟨p3,p4⟩:=pr _ _ _ h4;obtain ⟨p5,p6⟩:=pr _ _ _ h6;simp [sg _ h1,co _ h2,co _ h5,p1,p2,p3,p4,p5,p6]
  ·cases h
 ·cases h
theorem name_all {l:Txt} (h:nameB l=true):l.all ordB=true:=by
 unfold nameB at h;rw [Bool.or_eq_true] at h
 rcases h with h|h
 ·exact fixed_all h
 ·unfold Plc.placeB at h
  rw [Bool.and_eq_true,List.all_eq_true] at h
  have h2:=splitB_all' ordB 47 _ _ (fun p hp=>made_all (h.1 p hp) (by decide))
  rw [List.all_eq_true] at h2 ⊢;intro c hc
  have h3:(ordB c || c == 47)=true:=h2 c hc
  rw [Bool.or_eq_true,beq_iff_eq] at h3
  rcases h3 with h3|rfl
  ·exact h3
  ·decide
theorem notes_vals {l:Txt}:∀ {f i:Nat} {first:Bool} {zone:Txt} {out:List NoteT} {x:(Txt×List NoteT)×Nat},notesA nameB valL l f i first zone out=some x->(∀ n∈out,valL n.value=true)->∀ n∈x.1.2,valL n.value=true
 |0,i,first,zone,out,x,e,h=>by cases e
 |f+1,i,first,zone,out,x,e,h=>by
  rw [notesA] at e
  split at e
  ·obtain ⟨b,hb,e⟩:=Option.bind_eq_some_iff.1 e
   split at e
   ·exact notes_vals e h
   ·split at e
    ·next h1=>
     simp only [Bool.and_eq_true] at h1
     refine notes_vals e (fun n hn=>?_)
     rcases List.mem_append.1 hn with hn|hn
     ·exact h n hn
     ·rw [List.mem_singleton] at hn
      subst hn;exact h1.2.2
    ·cases e
  ·cases e;exact h
theorem tl_eq (a b:ByteArray):(a.toList == b.toList)=(tx a == tx b):=by rw [ByteArray.toList_eq,ByteArray.toList_eq]
theorem note_cells {w:World} {B n:Nat} {A:Option Addr} {ss:List NoteT} (h:Reads w B 3 A n (ss.flatMap NoteT.cells)) {k:Nat} (hk:k<ss.length) (hn:ss.length=n):
  ∃ ad,A=some ad/\ad.block<B/\w.cell? (ad.add (k*3))=some (.string ⟨ss[k].key.toArray⟩)/\w.cell? ⟨(ad.add (k*3)).block,(ad.add (k*3)).off+1,none⟩=some (.string ⟨ss[k].value.toArray⟩)/\w.cell? ⟨(ad.add (k*3)).block,(ad.add (k*3)).off+2,none⟩=some (.bool ss[k].sharp):=by
 obtain ⟨ad,e,hb,hc⟩:=h.2 (by omega)
 have g:∀ j,j<3->(ss.flatMap NoteT.cells)[k*3+j]?=(NoteT.cells ss[k])[j]?:=fun j hj=>by
  rw [Img.flat_get NoteT.cells 3 (fun _=>rfl) ss k j hj,List.getElem?_eq_getElem hk];rfl
 refine ⟨ad,e,hb,hc (k*3) _ (g 0 (by omega)),?_,?_⟩
 ·rw [<-Img.add_pos _ (by omega:0<1),add_of_add];exact hc _ _ (g 1 (by omega))
 ·rw [<-Img.add_pos _ (by omega:0<2),add_of_add];exact hc _ _ (g 2 (by omega))
def ucaQ (n:NoteT):Bool:=n.key == ucaL
theorem cal_hit {l:List NoteT} {k:Nat} (hk:k<l.length) (h1:ucaQ l[k]=false) (h2:l[k].sharp=true):calA l=19:=by
 unfold calA;rw [if_pos];rw [List.any_eq_true]
 refine ⟨l[k],List.getElem_mem hk,?_⟩
 unfold ucaQ at h1;rw [Bool.and_eq_true]
 exact ⟨by rw [bne,h1];rfl,h2⟩
def calM (mine:List NoteT) (sharp:Bool):Nat:=if 1<mine.length/\sharp=true then 19 else match mine with
 |[]=>0
 |n :: _=>if Lib.equalFold n.value isoL=true then 0 else 8
theorem cal_end {l mine:List NoteT} {sharp:Bool} (h:∀ n∈l,ucaQ n=false->n.sharp=false) (hm:l.filter ucaQ=mine) (hs:mine.any (·.sharp)=sharp):
  calA l=calM mine sharp:=by
 subst hm hs;unfold calA;rw [if_neg]
 ·rfl
 ·rw [List.any_eq_true]
  rintro ⟨n,hn,hb⟩;rw [Bool.and_eq_true] at hb
  have:=h n hn (by unfold ucaQ;have:=hb.1;rw [bne,Bool.not_eq_true'] at this;exact this)
  rw [this] at hb
  cases hb.2
theorem uca_list:tx (⟨#[117,45,99,97]⟩:ByteArray)=ucaL:=rfl
theorem iso_list:(⟨#[105,115,111,56,54,48,49]⟩:ByteArray).data.toList=isoL:=rfl
theorem ord_128 {l:Txt} (h:l.all ordB=true):∀ (j:Nat) (b:UInt8),l[j]?=some b->b.toNat<128:=by
 intro j b hb;rw [List.all_eq_true] at h;have:=h b (List.mem_of_getElem? hb);simp only [ordB,Bool.and_eq_true,decide_eq_true_eq] at this;omega
theorem calendar_any (l:List NoteT) (A:Option Addr) (c:Nat) (w:World) (h:Reads w w.heap.size 3 A l.length (l.flatMap NoteT.cells)) (hn:l.length<=2097152) (hv:∀ n∈l,valL n.value=true/\n.value.length<=2097152):
  Calls prog 44 #[.slice A l.length c] w fun e w'=>e= .returned (.int .i64 (calA l))/\Below w.heap.size w w':=by
 obtain ⟨i0,hi0,hz0,hz1,hz2⟩:=info_parts info_note;have HR:=hid h;have HV:=hid hv;clear h hv;go_enter func44,ntmps44
 go_wp2_with fail
 go_loopw [3,4,9] (fun v b i wr=>∃ (k:Nat) (mine:List NoteT) (sharp:Bool),k<=l.length/\i= .int .i64 k/\b= .bool sharp/\(l.take k).filter ucaQ=mine/\mine.any (·.sharp)=sharp/\(∀ n∈l.take k,ucaQ n=false->n.sharp=false)/\wr.ownsRow w.heap.size 139 3 v mine.length (mine.flatMap NoteT.cells)/\Below w.heap.size w wr) (fun _ _ i _=>l.length - (intOf i).toNat)
 case atStart=>exact ⟨0,[],false,Nat.zero_le _,rfl,rfl,rfl,rfl,fun n hn=>by simp at hn,World.ownsRow_nil _ _ _ _,Below.refl _ _⟩
 case round=>
  obtain ⟨k,mine,sharp,hk,rfl,rfl,hmine,hsh,hno,hown,hb⟩:=hrel;have HM:=hid hmine;have HSh:=hid hsh;have HNo:=hid hno;have HO:=hid hown;have HB:=hid hb
  have hml:mine.length<=l.length:=by rw [<-hmine];exact Nat.le_trans (List.length_filter_le _ _) (by rw [List.length_take];omega)
  have hsz:=hb.size;clear hmine hsh hno hown hb
  by_cases hkn:k<l.length
  ·obtain ⟨ad,hA,hadb,a0,a1,a2⟩:=note_cells (HR.out.below HB.out) hkn rfl
   subst hA;have htk:=List.take_succ_eq_append_getElem hkn;have Htk:=hid htk;have Hhit:=hid (fun h1 h2=>cal_hit hkn h1 h2);have hq:=tl_eq ⟨l[k].key.toArray⟩ ⟨#[117,45,99,97]⟩
   rw [uca_list,show tx ⟨l[k].key.toArray⟩=l[k].key from rfl,show (l[k].key == ucaL)=ucaQ l[k] from rfl,show (⟨#[117,45,99,97]⟩:ByteArray).toList=[117,45,99,97] from by rw [ByteArray.toList_eq]] at hq
   obtain ⟨x,hx⟩:∃ x,l[k]=x:=⟨_,rfl⟩;rw [hx] at a0 a1 a2 hq Hhit Htk;clear htk hx;obtain ⟨q,hqq⟩:∃ q,ucaQ x=q:=⟨_,rfl⟩;have Hq:=hid hqq;rw [hqq] at hq;obtain ⟨key,val,sh⟩:=x;simp only at a0 a1 a2 hq Hhit;clear hqq;obtain ⟨kb,hkb⟩:∃ x:ByteArray,⟨key.toArray⟩=x:=⟨_,rfl⟩;obtain ⟨vb,hvb⟩:∃ x:ByteArray,⟨val.toArray⟩=x:=⟨_,rfl⟩;have Hkb:=hid hkb;have Hvb:=hid hvb;rw [hkb] at a0 hq;rw [hvb] at a1;clear hkb hvb
   cases q
   ·cases sh
    ·go_wp2_with fail
     refine ⟨⟨k+1,mine,sharp,by omega,by go_num,rfl,?_,HSh.out,?_,HO.out.alloc _,HB.out.alloc hsz _⟩,by simp [intOf];omega⟩
     ·rw [Htk.out,List.filter_append,HM.out,List.filter_cons,Hq.out];simp
     ·intro n hn h2
      rw [Htk.out] at hn
      rcases List.mem_append.1 hn with hn|hn
      ·exact HNo.out n hn h2
      ·rw [List.mem_singleton] at hn;subst hn;rfl
    ·go_wp2_with fail
     go_ret
     exact ⟨by rw [Hhit.out Hq.out (by trivial)];rfl,HB.out.alloc hsz _⟩
   ·have M1:=hid (show mine.length+1<=maxLen from by unfold maxLen;omega)
    have M2:=hid (show (mine.length+1)*40<=140737488355328 from by omega)
    have HOa:=hid (HO.out.alloc (.cells #[.string kb,.string vb,.bool sh] 139));have HBa:=hid (HB.out.alloc hsz (.cells #[.string kb,.string vb,.bool sh] 139));have HSa:=hid HBa.out.size;have Hlt:=hid (fun j hj=>HO.out.lt j hj)
    cases sharp
    all_goals
     go_wp2_with ((at_builtin;refine wpList_append1g (wr.alloc (.cells #[.string kb,.string vb,.bool sh] 139)) rfl (.tmp 17) (.tmp 19) 81 rfl w.heap.size 139 i0 _ 3 40 underlying81 hi0 hz0 hz1 hz2 rfl (by decide) _ mine.length (mine.flatMap NoteT.cells) rfl HOa.out (by simp [Act.eval]) rfl note_one M1.out M2.out HSa.out ?_;intro v' wB hown8 hg8;have HO2:=hid hown8;have HB2:=hid ((HBa.out.alloc HSa.out _).grown hg8 (by simp;have:=HSa.out;simp at this;omega) (fun j hj=>(HOa.out.lt j hj).1));have b8:=Blk.grown ((Blk.new wr 139 #[.string kb,.string vb,.bool sh]).alloc (.cells #[.string kb,.string vb,.bool sh] 139)) hg8 (fun e=>absurd (Hlt.out _ e.symm).2 (Nat.lt_irrefl _));have c8:=b8.cell 2;clear hown8 hg8 b8))
     refine ⟨⟨k+1,mine++[⟨key,val,sh⟩],_,by omega,by go_num,rfl,?_,?_,?_,?_,HB2.out⟩,by simp [intOf];omega⟩
     ·rw [Htk.out,List.filter_append,HM.out,List.filter_cons,Hq.out];rfl
     ·rw [List.any_append,HSh.out];simp
     ·intro n hn h2
      rw [Htk.out] at hn
      rcases List.mem_append.1 hn with hn|hn
      ·exact HNo.out n hn h2
      ·rw [List.mem_singleton] at hn;subst hn;rw [Hq.out] at h2;cases h2
     ·have:=HO2.out
      rw [<-Hkb.out,<-Hvb.out] at this;rw [List.length_append,List.flatMap_append]
      simpa [NoteT.cells] using this
  ·obtain rfl:k=l.length:=by omega
   have hm:=HM.out;have hno:=HNo.out;rw [List.take_length] at hm hno;have HC:=hid (cal_end hno hm HSh.out)
   have HVm:=hid (show ∀ n∈mine,valL n.value=true/\n.value.length<=2097152 from fun n hn=>HV.out n (by rw [<-hm] at hn;exact (List.mem_filter.1 hn).1))
   clear hm hno HM HNo HSh HV HR
   cases mine with
   |nil=>
    obtain ⟨A',c',hv⟩:∃ A' c',u3= .slice A' 0 c':=by
     rcases HO.out.2 with ⟨hv,_⟩|⟨g,cap,cur,hv,_⟩
     ·exact ⟨_,_,hv⟩
     ·exact ⟨_,_,hv⟩
    subst hv;go_wp2;go_ret
    exact ⟨by rw [HC.out];rfl,HB.out⟩
   |cons n r=>
    obtain ⟨g,cap,hv,_,_⟩:=HO.out.form (Nat.succ_pos _);subst hv
    have hc1:=HO.out.cellAt 1 (by simp only [List.length_cons];omega)
    rw [show (List.flatMap NoteT.cells (n :: r))[1]?=some (.string ⟨n.value.toArray⟩) from rfl] at hc1;obtain ⟨hv1,hv2⟩:=HVm.out n (List.mem_cons_self ..)
    have HE:=hid (fun z=>Tryz.strings_EqualFold ⟨n.value.toArray⟩ ⟨#[105,115,111,56,54,48,49]⟩ z (by show n.value.length<_;omega) (ord_128 (val_all hv1)) (ord_128 (by decide)))
    rw [show (⟨n.value.toArray⟩:ByteArray).data.toList=n.value from rfl,iso_list] at HE;have hcm:=HC.out;unfold calM at hcm;obtain ⟨ef,hef⟩:∃ b,Lib.equalFold n.value isoL=b:=⟨_,rfl⟩;rw [hef] at HE;simp only [hef,List.length_cons] at hcm;have hml:(n :: r).length=r.length+1:=rfl;obtain ⟨rn,hrn⟩:∃ x,r.length=x:=⟨_,rfl⟩;rw [hrn] at hcm;simp only [hml,hrn];have HC2:=hid hcm
    have hrn9:rn<=2097152:=by simp only [List.length_cons] at hml;simp only [List.length_cons,hrn] at *;omega
    clear hcm hv1 hv2 HVm HC hml hef
    have hcap:rn+1<=cap:=by
     rcases HO.out.2 with ⟨h',_⟩|⟨g',cap',cur,h',_,_,hnc,_⟩
     ·cases h'
     ·injection h' with _ _ h3
      rw [h3]
      simpa [hrn] using hnc
    have HRN:=hid hrn;clear hrn
    cases rn with
    |zero=>
     have hc:=HC2.out
     rw [if_neg (by omega)] at hc
     cases ef
     all_goals
      have HC3:=hid hc;clear hc
      go_wp2_with (go_at_call 88;refine (HE.out _).mono ?_;rintro e w1 ⟨rfl,rfl⟩)
      go_ret
      exact ⟨by rw [HC3.out];rfl,HB.out⟩
    |succ rn=>
     cases sharp
     ·have hc:=HC2.out
      rw [if_neg (by simp)] at hc
      cases ef
      all_goals
       have HC3:=hid hc;clear hc
       go_wp2_with (go_at_call 88;refine (HE.out _).mono ?_;rintro e w1 ⟨rfl,rfl⟩)
       go_ret
       exact ⟨by rw [HC3.out];rfl,HB.out⟩
     ·have hc:=HC2.out
      rw [if_pos ⟨by omega,rfl⟩] at hc
      have HC3:=hid hc;clear hc;go_wp2;go_ret
      exact ⟨by rw [HC3.out];rfl,HB.out⟩
end Gr
end
end Go.Proofs.YtiiekaehbahenaaGreatDoor
