/-
  Contracts of the code that the law reaches, and plain laws. Conditions: as each says.
-/
import Derived.Test.YtiiekaehbahenaaGreatDoorV13
set_option linter.all false
set_option maxHeartbeats 40000000
set_option maxRecDepth 100000
namespace Go.Proofs.YtiiekaehbahenaaGreatDoor
open Lib (hid)
open Tryz
section
namespace Gr
open Go.RowKit Mem Atl
def valL (l:Txt):Bool:=valB ⟨l.toArray⟩
def NoteT.cells (n:NoteT):List Value:=[.string ⟨n.key.toArray⟩,.string ⟨n.value.toArray⟩,.bool n.sharp]
theorem own_kp {W X:World} {base n size:Nat} {e:TypeId} {v:Value} {xs:List Value} {P:Nat->Prop} (h:W.ownsRow base e size v n xs) (hk:Kp P W X) (hP:∀ b,P b->b<base):X.ownsRow base e size v n xs:=by
 obtain ⟨h1,h2⟩:=h
 refine ⟨h1,?_⟩
 rcases h2 with h2|⟨g,cap,cur,hv,hb,hg,r⟩
 ·exact .inl h2
 ·exact .inr ⟨g,cap,cur,hv,hb,(hk.same g (Blk.lt hg) (fun hp=>by have:=hP g hp;omega)).trans hg,r⟩
theorem sq_eq (l:Txt) (k:Nat):oneA l [91] k=((byA l k:Int) == 91):=by
 rw [oneA,byA]
 cases l[k]? with
 |none=>rfl
 |some c=>
  simp only [List.contains_cons,List.contains_nil,Bool.or_false];rw [Bool.eq_iff_iff];simp only [beq_iff_eq]
  constructor
  ·rintro rfl;rfl
  ·intro h
   exact UInt8.toNat_inj.1 (by show c.toNat=91;omega)
theorem bra_lt {l:Txt} {i:Nat} {b:(Txt×Bool)×Nat} (h:braA l i=some b):i<b.2/\b.2<=l.length/\b.1.1.length<=l.length:=by
 unfold braA at h
 have hi:i<(if oneA l [33] (i+1)=true then i+2 else i+1):=by split<;>omega
 generalize (if oneA l [33] (i+1)=true then i+2 else i+1)=p at*
 split at h
 ·next hm=>
  obtain ⟨r,hr⟩:=tw_at l p hm;have hl:=congrArg List.length hr;rw [List.length_append,List.length_cons,List.length_drop] at hl
  cases h
  refine ⟨?_,?_,?_⟩<;>simp only<;>omega
 ·cases h
theorem cut_le (s sep:List UInt8):(Lib.cut s sep).1.length<=s.length/\(Lib.cut s sep).2.1.length<=s.length:=by
 unfold Lib.cut
 split
 ·simp only [List.length_take,List.length_drop];omega
 ·simp
theorem note_one {x y:ByteArray} {b:Bool}:∀ u∈(#[Value.string x,.string y,.bool b]:Array Value).toList,u.oneCell'=true:=by
 intro u hu;simp at hu
 rcases hu with rfl|rfl|rfl<;>rfl
theorem info_note:(prog.info? 139).map (fun i=>(i.zero,i.size,i.bytes))=some (some (.agg #[.string ⟨#[]⟩,.string ⟨#[]⟩,.bool false]),3,40):=by kernel_rfl
theorem eq_list:(⟨#[61]⟩:ByteArray).data.toList=[61]:=rfl
structure NSt (w:World) (g gp:Nat) (s:ByteArray) (a0 a1 a2 a3 a4 a5 a6 a7 a8 a9:Value) (m:Int) (zone:Txt) (k:Nat) (W:World):Prop where
 rd:Rd W g s k
 le:k<=s.size
 kp:Kp (fun b=>b=g\/b=gp) w W
 pb:Blk W gp 40 #[a0,a1,a2,a3,a4,a5,a6,a7,a8,a9,.string ⟨zone.toArray⟩]
 ml:W.cell? ⟨1,0,none⟩=some (.int .i64 m)
section
variable {w W X:World} {g gp k j:Nat} {s:ByteArray} {a0 a1 a2 a3 a4 a5 a6 a7 a8 a9:Value} {m:Int} {zone:Txt}
theorem NSt.step (h:NSt w g gp s a0 a1 a2 a3 a4 a5 a6 a7 a8 a9 m zone k W) (hne:gp≠g) (hm:1≠g) (hr:Rd X g s j) (hj:j<=s.size) (hk:Kp (·=g) W X):NSt w g gp s a0 a1 a2 a3 a4 a5 a6 a7 a8 a9 m zone j X:=
 ⟨hr,hj,h.kp.trans (kp_or hk),hk.blk h.pb hne,(hk.cell (World.block_lt_of_cell? W _ h.ml) hm).trans h.ml⟩
theorem NSt.bel (h:NSt w g gp s a0 a1 a2 a3 a4 a5 a6 a7 a8 a9 m zone k W) (hg:g<w.heap.size) (hgp:gp<w.heap.size) (hm:1<w.heap.size) (hk:Below w.heap.size W X):NSt w g gp s a0 a1 a2 a3 a4 a5 a6 a7 a8 a9 m zone k X:=
 ⟨Blk.below h.rd hk hg,h.le,⟨hk.os.trans h.kp.os,hk.tape.trans h.kp.tape,hk.output.trans h.kp.output,Nat.le_trans h.kp.size hk.size,fun b h1 h2=>(hk.block b h1).trans (h.kp.same b h1 h2)⟩,h.pb.below hk hgp,(hk.cell hm).trans h.ml⟩
theorem NSt.zone_ (h:NSt w g gp s a0 a1 a2 a3 a4 a5 a6 a7 a8 a9 m zone k W) (hne:gp≠g) (hm:1≠gp) (z:Txt):NSt w g gp s a0 a1 a2 a3 a4 a5 a6 a7 a8 a9 m z k (W.setCell ⟨gp,10,none⟩ (.string ⟨z.toArray⟩)):=
 ⟨Blk.far h.rd (by show g≠gp;omega) _,h.le,h.kp.set (.inr rfl) _,by simpa using h.pb.set_ 10 (.string ⟨z.toArray⟩),(World.cell?_setCell_other W _ _ _ (fun e=>hm (by injection e with e;exact e.symm))).trans h.ml⟩
end
def NP (w:World) (g gp:Nat) (s:ByteArray) (a0 a1 a2 a3 a4 a5 a6 a7 a8 a9:Value) (m:Int) (r:Option ((Txt×List NoteT)×Nat)) (e:Ending) (w':World):Prop:=match r with
 |some ((zone,out),k)=>∃ A c,e= .returned (.slice A out.length c)/\w'.ownsRow w.heap.size 139 3 (.slice A out.length c) out.length (out.flatMap NoteT.cells)/\NSt w g gp s a0 a1 a2 a3 a4 a5 a6 a7 a8 a9 m zone k w'
 |none=>e=badE/\Kp (fun b=>b=g\/b=gp) w w'/\∃ z:Txt,Blk w' gp 40 #[a0,a1,a2,a3,a4,a5,a6,a7,a8,a9,.string ⟨z.toArray⟩]
theorem NP.fail {w w':World} {g gp:Nat} {s:ByteArray} {a0 a1 a2 a3 a4 a5 a6 a7 a8 a9:Value} {m:Int} {r:Option ((Txt×List NoteT)×Nat)} (h:r=none) (hk:Kp (fun b=>b=g\/b=gp) w w') {z:Txt} (hz:Blk w' gp 40 #[a0,a1,a2,a3,a4,a5,a6,a7,a8,a9,.string ⟨z.toArray⟩]):NP w g gp s a0 a1 a2 a3 a4 a5 a6 a7 a8 a9 m r badE w':=by subst h;exact ⟨rfl,hk,z,hz⟩
theorem notes_any (g gp:Nat) (s:ByteArray) (k:Nat) (w:World) (a0 a1 a2 a3 a4 a5 a6 a7 a8 a9:Value) (m:Int) (h:NSt w g gp s a0 a1 a2 a3 a4 a5 a6 a7 a8 a9 m [] k w) (hs:s.size<=2097152) (hne:gp≠g) (hmg:1≠g) (hmp:1≠gp):
  Calls prog 42 #[.pointer (some ⟨g,0,none⟩),.pointer (some ⟨gp,0,none⟩)] w (NP w g gp s a0 a1 a2 a3 a4 a5 a6 a7 a8 a9 m (notesA nameB valL (tx s) (s.size+1) k true [] [])):=by
 obtain ⟨i0,hi0,hz0,hz1,hz2⟩:=info_parts info_note;obtain ⟨R,hR⟩:∃ R,notesA nameB valL (tx s) (s.size+1) k true [] []=R:=⟨_,rfl⟩;rw [hR];have HR:=hid hR;have H:=hid h;have hglt:=h.rd.lt;have hplt:=h.pb.lt;have hmlt:=World.block_lt_of_cell? w _ h.ml;simp only at hmlt;clear hR h;go_enter func42,ntmps42
 go_wp2_with fail
 go_loopg [5,6] (s.size+1) (fun f v b wr=>∃ (k:Nat) (first:Bool) (zone:Txt) (out:List NoteT) (A:Option Addr) (c:Nat),v= .slice A out.length c/\b= .bool first/\notesA nameB valL (tx s) f k first zone out=R/\s.size+1<=f+k/\out.length<=k/\NSt w g gp s a0 a1 a2 a3 a4 a5 a6 a7 a8 a9 m zone k wr/\wr.ownsRow w.heap.size 139 3 (.slice A out.length c) out.length (out.flatMap NoteT.cells))
 case atStart=>exact ⟨k,true,[],[],none,0,rfl,rfl,HR.out,by omega,Nat.zero_le _,H.out,World.ownsRow_nil _ _ _ _⟩
 case round=>
  clear HR H
  obtain ⟨k,first,zone,out,A,c,rfl,rfl,hR,hf,hol,hst,hown⟩:=hrel
  have hle:=hst.le
  cases gk with
  |zero=>exact absurd hf (by omega)
  |succ f=>
  rw [notesA] at hR;have hsq:=sq_eq (tx s) k;obtain ⟨o,ho⟩:∃ b,oneA (tx s) [91] k=b:=⟨_,rfl⟩;rw [ho] at hR hsq;have HN:=hid (next_any g s k wr hst.rd hst.le hs);obtain ⟨b,hb⟩:∃ b,byA (tx s) k=b:=⟨_,rfl⟩;rw [hb] at HN hsq;have HR:=hid hR;have HS:=hid hst;have HO:=hid hown;have hsq2:=hsq.symm;have Ho:=hid ho;clear hR hst hown hsq hb ho
  cases o
  ·have hR:=HR.out
   simp only [Bool.false_eq_true,if_false] at hR;subst hR;clear HR
   go_wp2_with (go_at_call 47;refine HN.out.mono ?_;rintro e w1 ⟨rfl,q,rfl⟩;have HS1:=hid (HS.out.bel hglt hplt hmlt (below_drwN (Below.refl _ _) q));have HO1:=hid (own_kp HO.out (Kp.drewN (P:=fun _=>False) wr q) (fun _ h=>h.elim));clear HS HO;generalize wr.drewN q=W at *)
   go_ret;exact ⟨A,c,rfl,HO1.out,HS1.out⟩
  ·have hR:=HR.out
   simp only [if_true] at hR;have hklt:=one_lt Ho.out;clear HR
   go_wp2_with fail
   go_at_call 47
   refine HN.out.mono ?_
   rintro e w1 ⟨rfl,q,rfl⟩;have HS1:=hid (HS.out.bel hglt hplt hmlt (below_drwN (Below.refl _ _) q));have HO1:=hid (own_kp HO.out (Kp.drewN (P:=fun _=>False) wr q) (fun _ h=>h.elim));clear HS HO HN Ho;generalize wr.drewN q=W at*;have HB:=hid (bracket_any g s k W HS1.out.rd hklt hs);have HR:=hid hR;clear hR
   go_wp2_with fail
   clear hsq2
   go_at_call 82
   refine HB.out.mono ?_
   rintro e w2 hr
   rcases hr.cases with ⟨hm,rfl,hg⟩|⟨v,k2,hm,rfl,hrd,hk2,hg⟩
   ·exact ⟨rfl,NP.fail (by rw [<-HR.out,hm];rfl) (HS1.out.kp.trans (kp_or hg)) (hg.blk HS1.out.pb hne)⟩
   have hR:=HR.out;rw [hm] at hR;simp only [Option.bind_some] at hR;obtain ⟨hk12,_,hvl⟩:=bra_lt hm;simp only [tx_len] at hk12 hvl;obtain ⟨t,sh⟩:=v;simp only at hvl hR;have HS2:=hid (HS1.out.step hne hmg hrd hk2 hg)
   have HO2:=hid (own_kp HO1.out hg (fun b e=>by omega))
   have HC:=hid (Tryz.strings_Cut ⟨t.toArray⟩ ⟨#[61]⟩ m w2 (by show t.length<_;omega) HS2.out.ml)
   have hcl:=cut_le t [61];rw [show (⟨t.toArray⟩:ByteArray).data.toList=t from rfl,eq_list] at HC;obtain ⟨X,hX⟩:∃ X,Lib.cut t [61]=X:=⟨_,rfl⟩;rw [hX] at HC hR hcl;obtain ⟨key,val,is⟩:=X;simp only at HC hR hcl;have HR:=hid hR;clear hr hm hrd hg HS1 HO1 HB hR hX
   go_wp2_with fail
   go_at_call 83
   refine HC.out.mono ?_
   rintro e w3 ⟨rfl,q2,rfl⟩;have HS3:=hid (HS2.out.bel hglt hplt hmlt (below_drwN (Below.refl _ _) q2));have HO3:=hid (own_kp HO2.out (Kp.drewN (P:=fun _=>False) w2 q2) (fun _ h=>h.elim));clear HS2 HO2 HC;generalize w2.drewN q2=W3 at*
   cases is
   ·have hR:=HR.out
    simp only [Bool.not_false,Bool.true_and,Bool.false_and,Bool.false_eq_true,if_false] at hR;clear HR
    cases first
    ·simp only [Bool.false_and,Bool.false_eq_true,if_false] at hR
     subst hR
     go_wp2_with (go_at_call 23;refine (wrong_any g _).mono ?_;rintro e w2 ⟨rfl,rfl⟩)
     exact ⟨rfl,rfl,HS3.out.kp,_,HS3.out.pb⟩
    ·have HNm:=hid (isName_any ⟨t.toArray⟩ m W3 (by show t.length<=_;omega) HS3.out.ml)
     rw [show tx ⟨t.toArray⟩=t from rfl] at HNm;obtain ⟨nb,hnb⟩:∃ b,nameB t=b:=⟨_,rfl⟩;rw [hnb] at HNm hR;clear hnb;have HR:=hid hR;clear hR
     cases nb
     ·have hR:=HR.out
      simp only [Bool.and_false,Bool.false_eq_true,if_false] at hR;subst hR;clear HR
      go_wp2_with (first
       |(go_at_call 84;refine HNm.out.mono ?_;rintro e w4 ⟨rfl,hb⟩;have HS4:=hid (HS3.out.bel hglt hplt hmlt (hb.mono HS3.out.kp.size));clear hb HNm)
       |(go_at_call 23;refine (wrong_any g _).mono ?_;rintro e w2 ⟨rfl,rfl⟩))
      exact ⟨rfl,rfl,HS4.out.kp,_,HS4.out.pb⟩
     ·have hR:=HR.out
      simp only [Bool.and_true,if_true] at hR;have HR2:=hid hR;clear HR hR
      go_wp2_with (go_at_call 84;refine HNm.out.mono ?_;rintro e w4 ⟨rfl,hb⟩;have hs4:=HS3.out.bel hglt hplt hmlt (hb.mono HS3.out.kp.size);have HS4:=hid (hs4.zone_ hne hmp t);have HO4:=hid (own_kp (own_kp HO3.out (Kp.below (P:=fun _=>False) hb) (fun _ h=>h.elim)) ((Kp.refl (·=gp) w4).set (p:=⟨gp,10,none⟩) rfl (.string ⟨t.toArray⟩)) (fun b e=>by omega));have cP:=hs4.pb.cell 10;have fP:=hs4.pb.frozen 10;clear hb HNm hs4 HS3 HO3)
      clear cP fP
      go_roundg f
      case rel=>exact ⟨k2,false,t,out,A,c,rfl,rfl,HR2.out,by omega,by omega,HS4.out,HO4.out⟩
      case measure=>omega
   ·have hR:=HR.out
    simp only [Bool.not_true,Bool.true_and,Bool.false_and,Bool.false_eq_true,if_false] at hR
    have HK:=hid (isKey_any ⟨key.toArray⟩ W3 (by show key.length<=_;omega))
    rw [show tx ⟨key.toArray⟩=key from rfl] at HK;obtain ⟨kb,hkb⟩:∃ b,keyB key=b:=⟨_,rfl⟩;rw [hkb] at HK hR
    have HV:=hid (isValue_any ⟨val.toArray⟩ m W3 (by show val.length<=_;omega) HS3.out.ml)
    obtain ⟨vb,hvb⟩:∃ b,valL val=b:=⟨_,rfl⟩;rw [show valB ⟨val.toArray⟩=valL val from rfl,hvb] at HV;rw [hvb] at hR;clear HR hkb hvb;have HR:=hid hR;clear hR
    cases kb
    ·have hR:=HR.out
     simp only [Bool.false_and,Bool.false_eq_true,if_false] at hR;subst hR;clear HR
     go_wp2_with (first
      |(go_at_call 85;refine HK.out.mono ?_;rintro e w4 ⟨rfl,rfl⟩)
      |(go_at_call 23;refine (wrong_any g _).mono ?_;rintro e w2 ⟨rfl,rfl⟩))
     exact ⟨rfl,rfl,HS3.out.kp,_,HS3.out.pb⟩
    ·cases vb
     ·have hR:=HR.out
      simp only [Bool.and_false,Bool.false_eq_true,if_false] at hR;subst hR;clear HR
      go_wp2_with (first
       |(go_at_call 85;refine HK.out.mono ?_;rintro e w4 ⟨rfl,rfl⟩)
       |(go_at_call 86;refine HV.out.mono ?_;rintro e w4 ⟨rfl,hb⟩;have HS4:=hid (HS3.out.bel hglt hplt hmlt (hb.mono HS3.out.kp.size));clear hb HV)
       |(go_at_call 23;refine (wrong_any g _).mono ?_;rintro e w2 ⟨rfl,rfl⟩))
      exact ⟨rfl,rfl,HS4.out.kp,_,HS4.out.pb⟩
     ·have hR:=HR.out
      simp only [Bool.and_true,if_true] at hR;have HR2:=hid hR;clear HR hR
      have M1:=hid (show out.length+1<=maxLen from by unfold maxLen;omega)
      have M2:=hid (show (out.length+1)*40<=140737488355328 from by omega)
      go_wp2_with (first
       |(go_at_call 85;refine HK.out.mono ?_;rintro e w4 ⟨rfl,rfl⟩)
       |(go_at_call 86;refine HV.out.mono ?_;rintro e w4 ⟨rfl,hb⟩;have HS4:=hid (HS3.out.bel hglt hplt hmlt (hb.mono HS3.out.kp.size));have HO4:=hid (own_kp HO3.out (Kp.below (P:=fun _=>False) hb) (fun _ h=>h.elim));clear hb HV HO3)
       |(at_builtin;refine wpList_append1 _ rfl (.tmp 52) (.tmp 57) 81 rfl w.heap.size 139 i0 _ 3 40 underlying81 hi0 hz0 hz1 hz2 rfl (by decide) (.slice A out.length c) out.length (out.flatMap NoteT.cells) rfl HO4.out (by simp [Act.eval]) rfl note_one M1.out M2.out HS4.out.kp.size ?_;intro v' wB hown8 hb8;have HO8:=hid hown8;have HS8:=hid (HS4.out.bel hglt hplt hmlt hb8);clear hown8 hb8 HS4 HO4))
      obtain ⟨gt,capt,hv',_,_⟩:=HO8.out.form (Nat.succ_pos _);have ho:=HO8.out;rw [hv'] at ho;have HV':=hid hv';clear hv'
      go_roundg f
      case rel=>
       refine ⟨k2,false,zone,out++[⟨key,val,sh⟩],some ⟨gt,0,none⟩,capt,?_,rfl,HR2.out,by omega,by rw [List.length_append];simp only [List.length_cons,List.length_nil];omega,HS8.out,?_⟩
       ·rw [HV'.out,List.length_append];rfl
       ·rw [List.length_append,List.flatMap_append];simpa [NoteT.cells] using ho
      case measure=>omega
end Gr
end
end Go.Proofs.YtiiekaehbahenaaGreatDoor
