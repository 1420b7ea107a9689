/-
  Contracts of the code that the law reaches, and plain laws. Conditions: as each says.
-/
import Derived.Test.YtiiekaehbahenaaGreatDoorV33
set_option linter.all false
set_option maxHeartbeats 40000000
set_option maxRecDepth 100000
namespace Go.Proofs.YtiiekaehbahenaaGreatDoor
open Lib (hid)
open Tryz
section
namespace Gr
open Go.RowKit Mem Atl Wid
abbrev smS:List (List UInt8):=[[43],[45],[58],[46,44],[90,122],[43,45],[84,116,32],[91]]
theorem sm_refl (c:UInt8):relB smS c c=true:=byte_chk (p:=fun c=>relB smS c c) (by kernel_rfl) c
theorem at_app {A B:Txt} {x:UInt8} (i:Nat):(A++x :: B)[i]?=if i<A.length then A[i]? else if i=A.length then some x else B[i - A.length - 1]?:=by
 by_cases h:i<A.length
 ·rw [if_pos h,List.getElem?_append_left h]
 ·rw [if_neg h,List.getElem?_append_right (by omega)]
  by_cases h2:i=A.length
  ·rw [if_pos h2,h2,Nat.sub_self];rfl
  ·rw [if_neg h2,show i - A.length=(i - A.length - 1)+1 from by omega];rfl
theorem no_sq {A:Txt} (h:A.all (· != 91)=true) {i:Nat} (hi:i<A.length):A[i]?≠some 91:=by
 rw [List.getElem?_eq_getElem hi]
 intro e
 injection e with e
 rw [List.all_eq_true] at h;have:=h _ (List.getElem_mem hi);rw [e] at this
 cases this
theorem sq_at {l:Txt} {i:Nat} (h:oneA l [91] i=true):l[i]?=some 91:=by
 rw [oneA] at h
 cases hl:l[i]? with
 |none=>rw [hl] at h;cases h
 |some c=>
  rw [hl] at h;simp only [List.contains_cons,List.contains_nil,Bool.or_false,beq_iff_eq] at h;rw [h]
theorem sep_tw {A B:Txt} {x y:UInt8} (hA:A.all (· != 91)=true) (hr:relB smS x y=true) (hx:x≠91):formA nameB valL (A++x :: B)=formA nameB valL (A++y :: B):=by
 refine form_tw (S:=smS) (Tw.of (by simp) fun i c d hc hd=>?_) (by simp) (by simp) (by simp) (by simp) (by simp) (by simp) (by simp) (by simp) fun i hi=>?_
 ·rw [at_app] at hc hd
  split at hc
  ·next h=>rw [if_pos h] at hd;rw [hc] at hd;cases hd;exact sm_refl c
  ·next h=>
   rw [if_neg h] at hd
   split at hc
   ·next h2=>rw [if_pos h2] at hd;cases hc;cases hd;exact hr
   ·next h2=>rw [if_neg h2] at hd;rw [hc] at hd;cases hd;exact sm_refl c
 ·have h:=sq_at hi
  rw [at_app] at h
  split at h
  ·next h1=>exact absurd h (no_sq hA h1)
  ·next h1=>
   split at h
   ·cases h;exact absurd rfl hx
   ·next h2=>rw [List.drop_append,List.drop_append,List.drop_eq_nil_of_le (by omega),show i - A.length=(i - A.length - 1)+1 from by omega];rfl
def swC (c:UInt8):UInt8:=if c=46 then 44 else if c=44 then 46 else c
def swp:Txt->Txt
 |[]=>[]
 |c :: r=>if c=91 then c :: r else swC c :: swp r
theorem swp_len:∀ B:Txt,(swp B).length=B.length
 |[]=>rfl
 |c :: r=>by
  rw [swp]
  split
  ·rfl
  ·simp [swp_len r]
theorem sw_rel (c:UInt8):relB smS c (swC c)=true:=byte_chk (p:=fun c=>relB smS c (swC c)) (by kernel_rfl) c
theorem swp_at:∀ (B:Txt) (i:Nat) (c d:UInt8),B[i]?=some c->(swp B)[i]?=some d->relB smS c d=true
 |[],i,c,d,h,_=>by simp at h
 |x :: r,i,c,d,hc,hd=>by
  rw [swp] at hd
  split at hd
  ·rw [hc] at hd;cases hd;exact sm_refl c
  ·cases i with
   |zero=>simp only [List.getElem?_cons_zero,Option.some.injEq] at hc hd;subst hc hd;exact sw_rel _
   |succ i=>simp only [List.getElem?_cons_succ] at hc hd;exact swp_at r i c d hc hd
theorem swp_drop:∀ (B:Txt) (i:Nat),B[i]?=some 91->(swp B).drop i=B.drop i
 |[],i,h=>by simp at h
 |x :: r,i,h=>by
  rw [swp]
  split
  ·rfl
  ·next hx=>
   cases i with
   |zero=>simp only [List.getElem?_cons_zero,Option.some.injEq] at h;exact absurd h hx
   |succ i=>simp only [List.getElem?_cons_succ] at h;simpa using swp_drop r i h
theorem dot_tw {A B:Txt} {x:UInt8} (hA:A.all (· != 91)=true) (hx:x≠91):formA nameB valL (A++x :: B)=formA nameB valL (A++x :: swp B):=by
 refine form_tw (S:=smS) (Tw.of (by simp [swp_len]) fun i c d hc hd=>?_) (by simp) (by simp) (by simp) (by simp) (by simp) (by simp) (by simp) (by simp) fun i hi=>?_
 ·rw [at_app] at hc hd
  split at hc
  ·next h=>rw [if_pos h] at hd;rw [hc] at hd;cases hd;exact sm_refl c
  ·next h=>
   rw [if_neg h] at hd
   split at hc
   ·next h2=>rw [if_pos h2] at hd;cases hc;cases hd;exact sm_refl _
   ·next h2=>rw [if_neg h2] at hd;exact swp_at B _ c d hc hd
 ·have h:=sq_at hi
  rw [at_app] at h
  split at h
  ·next h1=>exact absurd h (no_sq hA h1)
  ·next h1=>
   split at h
   ·cases h;exact absurd rfl hx
   ·next h2=>
    rw [List.drop_append,List.drop_append,List.drop_eq_nil_of_le (by omega),show i - A.length=(i - A.length - 1)+1 from by omega]
    simp only [List.drop_succ_cons,List.nil_append];exact (swp_drop B _ h).symm
theorem parse_same {l m:Txt} (h:formA nameB valL l=formA nameB valL m):parseA nameB valL mlN l=parseA nameB valL mlN m:=by rw [parseA,parseA,h]
theorem parse_cells (r:Except Nat PartT):∃ (y0 y1 y2 y4 y5 y6 y7 y8 y9 n:Int) (y3:Bool) (y10:Txt),parseV r= .tuple #[.agg (partC y0 y1 y2 y3 y4 y5 y6 y7 y8 y9 y10),.int .i64 n]:=by
 cases r with
 |ok p=>exact ⟨_,_,_,_,_,_,_,_,_,_,_,_,rfl⟩
 |error n=>exact ⟨_,_,_,_,_,_,_,_,_,_,_,_,rfl⟩
theorem eq_part (y0 y1 y2 y4 y5 y6 y7 y8 y9:Int) (y3:Bool) (y10:ByteArray) (w:World):(Op.equalIn 10000 40 (.agg #[.int .i64 y0,.int .i64 y1,.int .i64 y2,.bool y3,.int .i64 y4,.int .i64 y5,.int .i64 y6,.int .i64 y7,.int .i64 y8,.int .i64 y9,.string y10]) (.agg #[.int .i64 y0,.int .i64 y1,.int .i64 y2,.bool y3,.int .i64 y4,.int .i64 y5,.int .i64 y6,.int .i64 y7,.int .i64 y8,.int .i64 y9,.string y10])).run prog w= .ok true w:=by
 simp [go_sem]
theorem parse_is (s:ByteArray) (m:Int) (z:World) (hs:s.size<=2097152) (hm:z.cell? ⟨1,0,none⟩=some (.int .i64 m)) {r:Except Nat PartT} (h:parseA nameB valL mlN (tx s)=r) {v:Value} (hv:parseV r=v):
  Calls prog 13 #[.string s] z fun e w'=>e= .returned v/\Below z.heap.size z w':=by
 refine (parse_text s m z hs hm).mono ?_
 rintro e w' ⟨rfl,hb⟩
 exact ⟨by rw [h,hv],hb⟩
theorem all_step' {a:ByteArray} {k:Nat} (hk:k<a.size) (h:((tx a).take k).all (· != 91)=true) (hc:¬ (a[k]'hk).toNat=91):((tx a).take (k+1)).all (· != 91)=true:=by
 have hk':k<(tx a).length:=by simpa using hk
 rw [List.take_succ_eq_append_getElem hk',List.all_append,h];simp only [List.all_cons,List.all_nil,Bool.and_true,Bool.true_and,bne_iff_ne];intro e
 exact hc (by have e2:a[k]'hk=91:=e;rw [e2];rfl)
theorem tx_ext (b:ByteArray) (k n:Nat):tx (b.extract k n)=((tx b).drop k).take (n - k):=by
 show (b.extract k n).data.toList=_
 rw [ByteArray.data_extract,Array.toList_extract]
theorem drop_at {b:ByteArray} {k:Nat} (hk:k<b.size):(tx b).drop k=b[k]'hk :: (tx b).drop (k+1):=
 List.drop_eq_getElem_cons (by simpa using hk)
theorem tx_app (a b:ByteArray):tx (a++b)=tx a++tx b:=by simp
theorem dots_sq {b D:ByteArray} {k:Nat} (hk:k<b.size) (hc:(b[k]'hk).toNat=91) (h:tx D++swp ((tx b).drop k)=swp (tx b)):tx (D++b.extract k b.size)++swp ((tx b).drop (b.size+1))=swp (tx b):=by
 have e:b[k]'hk=91:=UInt8.toNat_inj.1 hc
 rw [<-h,tx_app,tx_ext,List.drop_eq_nil_of_le (show (tx b).length<=b.size+1 from by simp),List.take_of_length_le (by simp),drop_at hk,e]
 simp [swp]
theorem dots_one {b D E:ByteArray} {k:Nat} (hk:k<b.size) (hc:¬ (b[k]'hk).toNat=91) (hE:tx E=[swC (b[k]'hk)]) (h:tx D++swp ((tx b).drop k)=swp (tx b)):tx (D++E)++swp ((tx b).drop (k+1))=swp (tx b):=by
 rw [<-h,tx_app,hE,drop_at hk,swp,if_neg (fun e=>hc (by rw [e];rfl))]
 simp
theorem ext_one {b:ByteArray} {k:Nat} (hk:k<b.size) (h1:¬ (b[k]'hk).toNat=46) (h2:¬ (b[k]'hk).toNat=44):tx (b.extract k (k+1))=[swC (b[k]'hk)]:=by
 rw [tx_ext,drop_at hk,show k+1 - k=1 from by omega,swC,if_neg (fun e=>h1 (by rw [e];rfl)),if_neg (fun e=>h2 (by rw [e];rfl))]
 rfl
theorem tx_sep (a:ByteArray) (c:UInt8) (b:ByteArray):tx (a++⟨#[c]⟩++b)=tx a++c :: tx b:=by simp
theorem sames (a b:ByteArray) (m:Int) (w:World) (hm:w.cell? ⟨1,0,none⟩=some (.int .i64 m)) (ha:a.size<=2097152) (hb:b.size<=2097152):
  Calls prog 5 #[.string a,.string b] w fun e w'=>e= .returned (.bool true)/\Below w.heap.size w w':=by
 have HA:=hid (fun z (hb:Below w.heap.size w z)=>alive_any m z (cell_later hb hm))
 by_cases hl:100<a.size
 ·have hl2:decide ((100:Int)<(a.size:Int))=true:=decide_eq_true (by omega)
  clear hm hl;go_enter func5,ntmps5
  go_wp2_with (go_at_call 9;refine (HA.out _ (Below.refl _ _)).mono ?_;rintro e w1 ⟨rfl,hb⟩;have H1:=hid hb;clear hb)
  go_ret;exact ⟨rfl,H1.out⟩
 have hl2:decide ((100:Int)<(a.size:Int))=false:=decide_eq_false (by omega)
 by_cases hl3:100<b.size
 ·have hl4:decide ((100:Int)<(b.size:Int))=true:=decide_eq_true (by omega)
  clear hm hl3;go_enter func5,ntmps5
  go_wp2_with (go_at_call 9;refine (HA.out _ (Below.refl _ _)).mono ?_;rintro e w1 ⟨rfl,hb⟩;have H1:=hid hb;clear hb)
  go_ret;exact ⟨rfl,H1.out⟩
 have hl4:decide ((100:Int)<(b.size:Int))=false:=decide_eq_false (by omega)
 have ha3:a.size<=100:=by omega
 have hb3:b.size<=100:=by omega
 have HM:=hid hm;clear hm hl hl3;go_enter func5,ntmps5
 go_wp2_with fail
 go_loopw [5] (fun i wr=>∃ k:Nat,i= .int .i64 k/\k<=a.size/\((tx a).take k).all (· != 91)=true/\w=wr) (fun i _=>a.size - (intOf i).toNat)
 case atStart=>exact ⟨0,rfl,Nat.zero_le _,rfl,rfl⟩
 case round=>
  obtain ⟨k,rfl,hk,hal,rfl⟩:=hrel
  by_cases hka:k<a.size
  ·have i0:(0:Int)<=(k:Int):=by omega
   have i1:(k:Int)<(a.size:Int):=by omega
   by_cases hc:(a[k]'hka).toNat=91
   ·have q1:(((a[k]'hka).toNat:Int) == 91)=true:=by rw [beq_iff_eq];omega
    clear hal
    go_wp2_with (go_at_call 9;refine (HA.out _ (Below.refl _ _)).mono ?_;rintro e w1 ⟨rfl,hb⟩;have H1:=hid hb;clear hb)
    go_ret;exact ⟨rfl,H1.out⟩
   ·have q1:(((a[k]'hka).toNat:Int) == 91)=false:=by rw [beq_eq_false_iff_ne];omega
    have Hal:=hid (all_step' hka hal hc);clear hal hc
    go_wp2_with fail
    exact ⟨⟨k+1,by go_num,by omega,Hal.out,by trivial⟩,by simp [intOf];omega⟩
  ·obtain rfl:k=a.size:=by omega
   have Hal:=hid (show (tx a).all (· != 91)=true from by rw [List.take_of_length_le (by simp)] at hal;exact hal)
   clear hal hk
   go_wp2_with fail
   go_loopw [6,7,50,62,69] (fun t i _ _ _ wr=>∃ (k:Nat) (D:ByteArray),i= .int .i64 k/\k<=b.size+1/\t= .string D/\tx D++swp ((tx b).drop k)=swp (tx b)/\w=wr) (fun _ i _ _ _ _=>b.size+1 - (intOf i).toNat)
   case atStart=>exact ⟨0,⟨#[]⟩,rfl,Nat.zero_le _,rfl,rfl,rfl⟩
   case round=>
    obtain ⟨k,D,rfl,hk,rfl,hD,rfl⟩:=hrel
    have hDs:D.size<=100:=by
     have:=congrArg List.length hD;rw [List.length_append,swp_len,swp_len,tx_len,tx_len] at this;omega
    by_cases hkb:k<b.size
    ·have i0:(0:Int)<=(k:Int):=by omega
     have i1:(k:Int)<(b.size:Int):=by omega
     by_cases hc:(b[k]'hkb).toNat=91
     ·have q1:(((b[k]'hkb).toNat:Int) == 91)=true:=by rw [beq_iff_eq];omega
      have HD:=hid (dots_sq hkb hc hD);clear hD
      go_wp2_with fail
      exact ⟨⟨b.size+1,_,by go_num,by omega,rfl,HD.out,by trivial⟩,by simp [intOf];omega⟩
     ·have q1:(((b[k]'hkb).toNat:Int) == 91)=false:=by rw [beq_eq_false_iff_ne];omega
      by_cases h46:(b[k]'hkb).toNat=46
      ·have q2:(((b[k]'hkb).toNat:Int) == 46)=true:=by rw [beq_iff_eq];omega
       have HD:=hid (dots_one (E:=⟨#[44]⟩) hkb hc (by rw [show b[k]'hkb=46 from UInt8.toNat_inj.1 h46];rfl) hD)
       clear hD hc h46
       go_wp2_with fail
       exact ⟨⟨k+1,_,by go_num,by omega,rfl,HD.out,by trivial⟩,by simp [intOf];omega⟩
      ·have q2:(((b[k]'hkb).toNat:Int) == 46)=false:=by rw [beq_eq_false_iff_ne];omega
       by_cases h44:(b[k]'hkb).toNat=44
       ·have q3:(((b[k]'hkb).toNat:Int) == 44)=true:=by rw [beq_iff_eq];omega
        have HD:=hid (dots_one (E:=⟨#[46]⟩) hkb hc (by rw [show b[k]'hkb=44 from UInt8.toNat_inj.1 h44];rfl) hD)
        clear hD hc h46 h44
        go_wp2_with fail
        exact ⟨⟨k+1,_,by go_num,by omega,rfl,HD.out,by trivial⟩,by simp [intOf];omega⟩
       ·have q3:(((b[k]'hkb).toNat:Int) == 44)=false:=by rw [beq_eq_false_iff_ne];omega
        have HD:=hid (dots_one (E:=b.extract k (k+1)) hkb hc (ext_one hkb h46 h44) hD)
        have hxs:(b.extract k (k+1)).size<=1:=by simp;omega
        clear hD hc h46 h44
        go_wp2_with fail
        exact ⟨⟨k+1,_,by go_num,by omega,rfl,HD.out,by trivial⟩,by simp [intOf];omega⟩
    ·have hDe:tx D=swp (tx b):=by
      rw [List.drop_eq_nil_of_le (by simp;omega)] at hD
      simpa [swp] using hD
     obtain ⟨r,hr⟩:∃ r,parseA nameB valL mlN (tx (a++⟨#[84]⟩++b))=r:=⟨_,rfl⟩
     have hr2:parseA nameB valL mlN (tx (a++⟨#[116]⟩++b))=r:=by
      rw [<-hr,tx_sep,tx_sep]
      exact (parse_same (sep_tw Hal.out (by kernel_rfl) (by decide))).symm
     have hr3:parseA nameB valL mlN (tx (a++⟨#[32]⟩++b))=r:=by
      rw [<-hr,tx_sep,tx_sep]
      exact (parse_same (sep_tw Hal.out (by kernel_rfl) (by decide))).symm
     have hr4:parseA nameB valL mlN (tx (a++⟨#[84]⟩++D))=r:=by
      rw [<-hr,tx_sep,tx_sep,hDe]
      exact (parse_same (dot_tw Hal.out (by decide))).symm
     obtain ⟨y0,y1,y2,y4,y5,y6,y7,y8,y9,n,y3,y10,hv⟩:=parse_cells r
     have hz:∀ (x:UInt8) (c:ByteArray),c.size<=100->(a++⟨#[x]⟩++c).size<=2097152:=fun x c hc=>by
      rw [ByteArray.size_append,ByteArray.size_append]
      show a.size+1+c.size<=_
      omega
     have HP1:=hid (fun z (hb:Below w.heap.size w z)=>parse_is _ m z (hz 84 b hb3) (cell_later hb HM.out) hr hv);have HP2:=hid (fun z (hb:Below w.heap.size w z)=>parse_is _ m z (hz 116 b hb3) (cell_later hb HM.out) hr2 hv);have HP3:=hid (fun z (hb:Below w.heap.size w z)=>parse_is _ m z (hz 32 b hb3) (cell_later hb HM.out) hr3 hv);have HP4:=hid (fun z (hb:Below w.heap.size w z)=>parse_is _ m z (hz 84 D hDs) (cell_later hb HM.out) hr4 hv);have heq:=eq_part y0 y1 y2 y4 y5 y6 y7 y8 y9 y3 ⟨y10.toArray⟩;clear hD hDe hr hr2 hr3 hr4 hv hz
     go_wp2_with fail
     go_at_call 13
     refine (HP1.out w (Below.refl _ _)).mono ?_
     rintro e w1 ⟨rfl,hb1⟩;have b1:=Blk.new w1 40 #[.int .i64 y0,.int .i64 y1,.int .i64 y2,.bool y3,.int .i64 y4,.int .i64 y5,.int .i64 y6,.int .i64 y7,.int .i64 y8,.int .i64 y9,.string ⟨y10.toArray⟩];have H1:=hid (And.intro b1 (hb1.alloc hb1.size (.cells #[.int .i64 y0,.int .i64 y1,.int .i64 y2,.bool y3,.int .i64 y4,.int .i64 y5,.int .i64 y6,.int .i64 y7,.int .i64 y8,.int .i64 y9,.string ⟨y10.toArray⟩] 40)));clear b1 hb1 HP1
     go_wp2_with fail
     go_at_call 13
     generalize World.alloc _ _=W1 at*
     refine (HP2.out W1 H1.out.2).mono ?_
     rintro e w2 ⟨rfl,hb2⟩;have d1:=(H1.out.1.below hb2 H1.out.1.lt).alloc (.cells #[.int .i64 y0,.int .i64 y1,.int .i64 y2,.bool y3,.int .i64 y4,.int .i64 y5,.int .i64 y6,.int .i64 y7,.int .i64 y8,.int .i64 y9,.string ⟨y10.toArray⟩] 40);have d2:=Blk.new w2 40 #[.int .i64 y0,.int .i64 y1,.int .i64 y2,.bool y3,.int .i64 y4,.int .i64 y5,.int .i64 y6,.int .i64 y7,.int .i64 y8,.int .i64 y9,.string ⟨y10.toArray⟩];have hB2:=H1.out.2.trans (hb2.mono H1.out.2.size);have H2:=hid (And.intro d1 (And.intro d2 (hB2.alloc hB2.size (.cells #[.int .i64 y0,.int .i64 y1,.int .i64 y2,.bool y3,.int .i64 y4,.int .i64 y5,.int .i64 y6,.int .i64 y7,.int .i64 y8,.int .i64 y9,.string ⟨y10.toArray⟩] 40))));clear d1 d2 hb2 hB2 H1 HP2
     go_wp2_with fail
     go_at_call 13
     generalize World.alloc _ _=W2 at*
     refine (HP3.out W2 H2.out.2.2).mono ?_
     rintro e w3 ⟨rfl,hb3'⟩;have d1:=(H2.out.1.below hb3' H2.out.1.lt).alloc (.cells #[.int .i64 y0,.int .i64 y1,.int .i64 y2,.bool y3,.int .i64 y4,.int .i64 y5,.int .i64 y6,.int .i64 y7,.int .i64 y8,.int .i64 y9,.string ⟨y10.toArray⟩] 40);have d2:=(H2.out.2.1.below hb3' H2.out.2.1.lt).alloc (.cells #[.int .i64 y0,.int .i64 y1,.int .i64 y2,.bool y3,.int .i64 y4,.int .i64 y5,.int .i64 y6,.int .i64 y7,.int .i64 y8,.int .i64 y9,.string ⟨y10.toArray⟩] 40);have d3:=Blk.new w3 40 #[.int .i64 y0,.int .i64 y1,.int .i64 y2,.bool y3,.int .i64 y4,.int .i64 y5,.int .i64 y6,.int .i64 y7,.int .i64 y8,.int .i64 y9,.string ⟨y10.toArray⟩];have hB3:=H2.out.2.2.trans (hb3'.mono H2.out.2.2.size);have H3:=hid (And.intro d1 (hB3.alloc hB3.size (.cells #[.int .i64 y0,.int .i64 y1,.int .i64 y2,.bool y3,.int .i64 y4,.int .i64 y5,.int .i64 y6,.int .i64 y7,.int .i64 y8,.int .i64 y9,.string ⟨y10.toArray⟩] 40)));have c1:=d1.cell;have c2:=d2.cell;have c3:=d3.cell;clear d1 d2 d3 hb3' hB3 H2 HP3
     go_wp2_with fail
     clear c1 c2 c3;generalize World.alloc _ _=W3 at*
     go_loopw [14] (fun i wr=>∃ q:Nat,i= .int .i64 q/\q<=a.size/\W3=wr) (fun i _=>a.size - (intOf i).toNat)
     case atStart=>exact ⟨0,rfl,Nat.zero_le _,rfl⟩
     case round=>
      obtain ⟨q,rfl,hq,rfl⟩:=hrel
      by_cases hqa:q<a.size
      ·have i0:(0:Int)<=(q:Int):=by omega
       have i1:(q:Int)<(a.size:Int):=by omega
       by_cases hc:(a[q]'hqa).toNat=91
       ·have q1:(((a[q]'hqa).toNat:Int) == 91)=true:=by rw [beq_iff_eq];omega
        go_wp2_with (go_at_call 9;refine (HA.out _ H3.out.2).mono ?_;rintro e w4 ⟨rfl,hb⟩;have H4:=hid (H3.out.2.trans (hb.mono H3.out.2.size));clear hb)
        go_ret;exact ⟨rfl,H4.out⟩
       ·have q1:(((a[q]'hqa).toNat:Int) == 91)=false:=by rw [beq_eq_false_iff_ne];omega
        by_cases h46:(a[q]'hqa).toNat=46
        ·have q2:(((a[q]'hqa).toNat:Int) == 46)=true:=by rw [beq_iff_eq];omega
         go_wp2_with (go_at_call 9;refine (HA.out _ H3.out.2).mono ?_;rintro e w4 ⟨rfl,hb⟩;have H4:=hid (H3.out.2.trans (hb.mono H3.out.2.size));clear hb)
         go_ret;exact ⟨rfl,H4.out⟩
        ·have q2:(((a[q]'hqa).toNat:Int) == 46)=false:=by rw [beq_eq_false_iff_ne];omega
         by_cases h44:(a[q]'hqa).toNat=44
         ·have q3:(((a[q]'hqa).toNat:Int) == 44)=true:=by rw [beq_iff_eq];omega
          go_wp2_with (go_at_call 9;refine (HA.out _ H3.out.2).mono ?_;rintro e w4 ⟨rfl,hb⟩;have H4:=hid (H3.out.2.trans (hb.mono H3.out.2.size));clear hb)
          go_ret;exact ⟨rfl,H4.out⟩
         ·have q3:(((a[q]'hqa).toNat:Int) == 44)=false:=by rw [beq_eq_false_iff_ne];omega
          clear hc h46 h44
          go_wp2_with fail
          exact ⟨⟨q+1,by go_num,by omega,by trivial⟩,by simp [intOf];omega⟩
      ·obtain rfl:q=a.size:=by omega
       go_wp2_with fail
       go_at_call 13
       refine (HP4.out _ H3.out.2).mono ?_
       rintro e w4 ⟨rfl,hb4⟩;have d1:=(H3.out.1.below hb4 H3.out.1.lt).alloc (.cells #[.int .i64 y0,.int .i64 y1,.int .i64 y2,.bool y3,.int .i64 y4,.int .i64 y5,.int .i64 y6,.int .i64 y7,.int .i64 y8,.int .i64 y9,.string ⟨y10.toArray⟩] 40);have d4:=Blk.new w4 40 #[.int .i64 y0,.int .i64 y1,.int .i64 y2,.bool y3,.int .i64 y4,.int .i64 y5,.int .i64 y6,.int .i64 y7,.int .i64 y8,.int .i64 y9,.string ⟨y10.toArray⟩];have hB4:=H3.out.2.trans (hb4.mono H3.out.2.size);have H4:=hid (And.intro d1 (And.intro d4 (hB4.alloc hB4.size (.cells #[.int .i64 y0,.int .i64 y1,.int .i64 y2,.bool y3,.int .i64 y4,.int .i64 y5,.int .i64 y6,.int .i64 y7,.int .i64 y8,.int .i64 y9,.string ⟨y10.toArray⟩] 40))));clear d1 d4 hb4 hB4 H3 HP4
       go_wp2_with fail
       go_at_call 9
       generalize World.alloc _ _=W4 at*
       refine (HA.out W4 H4.out.2.2).mono ?_
       rintro e w5 ⟨rfl,hb5⟩;have d1:=H4.out.1.below hb5 H4.out.1.lt;have d4:=H4.out.2.1.below hb5 H4.out.2.1.lt;have H5:=hid (H4.out.2.2.trans (hb5.mono H4.out.2.2.size));have c1:=d1.cell;have c4:=d4.cell;clear hb5 H4 HA d1 d4
       go_wp2_with fail
       go_ret;exact ⟨rfl,H5.out⟩
end Gr
end
end Go.Proofs.YtiiekaehbahenaaGreatDoor
