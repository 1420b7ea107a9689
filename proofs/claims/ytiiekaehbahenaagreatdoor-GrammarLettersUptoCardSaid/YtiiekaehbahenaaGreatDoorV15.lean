/-
  Contracts of the code that the law reaches, and plain laws. Conditions: as each says.
-/
import Derived.Test.YtiiekaehbahenaaGreatDoorV10
import Derived.IntWalk
import Derived.Test.YtiiekaehbahenaaGreatDoorV12
import Derived.Test.YtiiekaehbahenaaGreatDoorV13
import Derived.Test.YtiiekaehbahenaaGreatDoorV14
set_option linter.all false
set_option maxHeartbeats 40000000
set_option maxRecDepth 100000
namespace Go.Proofs.YtiiekaehbahenaaGreatDoor
open Lib (hid)
open Tryz
section
namespace Gr
open Go.RowKit Mem Atl
def nameB (l:Txt):Bool:=(fixedB l).isSome || Plc.placeB ⟨l.toArray⟩
theorem isName_any (s:ByteArray) (m:Int) (w:World) (hs:s.size<=2097152) (hm:w.cell? ⟨1,0,none⟩=some (.int .i64 m)):
  Calls prog 84 #[.string s] w fun e w'=>e= .returned (.bool (nameB (tx s)))/\Below w.heap.size w w':=by
 have HF:=hid (fixed_any s w)
 have HP:=hid (show ∀ z,Below w.heap.size w z->Calls prog 114 #[.string s] z fun e w'=>e= .returned (.bool (Plc.placeB s))/\Below z.heap.size z w' from fun z hz=>Plc.place_any s m z (by omega) (cell_later hz hm))
 clear hm
 have hn:nameB (tx s)=((fixedB (tx s)).isSome || Plc.placeB s):=rfl
 rw [hn];clear hn;obtain ⟨b1,hb1⟩:∃ b,(fixedB (tx s)).isSome=b:=⟨_,rfl⟩;obtain ⟨n1,hn1⟩:∃ b,(fixedB (tx s)).getD 0=b:=⟨_,rfl⟩;obtain ⟨b2,hb2⟩:∃ b,Plc.placeB s=b:=⟨_,rfl⟩;rw [show s.data.toList=tx s from rfl,hb1,hn1] at HF;rw [hb2] at HP;rw [hb1,hb2];clear hb1 hb2 hn1;go_enter func84,ntmps84
 cases b1
 ·go_wp2_with (first
   |(go_at_call 113;refine HF.out.mono ?_;rintro e w1 ⟨rfl,q,rfl⟩;have hb:=below_drwN (Below.refl w.heap.size w) q;have HB:=hid hb;have HP1:=hid (HP.out _ hb);clear hb HP HF;generalize w.drewN q=W at *)
   |(go_at_call 114;refine HP1.out.mono ?_;rintro e w2 ⟨rfl,hb⟩;have HB2:=hid (HB.out.trans (hb.mono HB.out.size));clear hb HP1))
  go_ret;exact ⟨rfl,HB2.out⟩
 ·go_wp2_with (go_at_call 113;refine HF.out.mono ?_;rintro e w1 ⟨rfl,q,rfl⟩;have HB:=hid (below_drwN (Below.refl w.heap.size w) q);clear HP HF;generalize w.drewN q=W at *)
  go_ret;exact ⟨rfl,HB.out⟩
theorem idx_tw (c:UInt8) (l:List UInt8):(c∈l->Lib.indexByte l c=((l.takeWhile (· != c)).length:Int))/\(c ∉ l->Lib.indexByte l c= -1):=by
 induction l with
 |nil=>exact ⟨(fun h=>by cases h),fun _=>rfl⟩
 |cons b l ih=>
  by_cases hb:b=c
  ·subst hb
   refine ⟨fun _=>?_,fun h=>absurd (List.mem_cons_self ..) h⟩
   rw [Lib.indexByte,if_pos (by simp),List.takeWhile_cons_of_neg (by simp)]
   rfl
  ·have hne:(b == c)=false:=by simpa using hb
   have htw:(b :: l).takeWhile (· != c)=b :: l.takeWhile (· != c):=List.takeWhile_cons_of_pos (by simpa using hb)
   rw [Lib.indexByte,hne];simp only [Bool.false_eq_true,if_false]
   refine ⟨fun h=>?_,fun h=>?_⟩
   ·have h2:c∈l:=by
     rcases List.mem_cons.1 h with h|h
     ·exact absurd h.symm hb
     ·exact h
    rw [ih.1 h2,htw,List.length_cons,if_neg (by rw [beq_iff_eq];omega)]
    omega
   ·have h2:c ∉ l:=fun h3=>h (List.mem_cons_of_mem _ h3)
    rw [ih.2 h2]
    rfl
theorem rd_jump {w:World} {g:Nat} {s:ByteArray} {k:Nat} (h:Rd w g s k) (j:Nat):Rd (w.setCell ⟨g,1,none⟩ (.int .i64 (j:Int))) g s j:=by
 have:=h.set_ 1 (.int .i64 (j:Int))
 simpa [Rd] using this
theorem bang_list:(⟨#[33]⟩:ByteArray).data.toList=[33]:=rfl
abbrev braV (v:Txt×Bool):Value:= .tuple #[.string ⟨v.1.toArray⟩,.bool v.2]
theorem one_lt {s:ByteArray} {of:List UInt8} {k:Nat} (h:oneA (tx s) of k=true):k<s.size:=by
 rcases Nat.lt_or_ge k s.size with hlt|hge
 ·exact hlt
 ·rw [one_end of (by omega)] at h;cases h
theorem ext_tw {s:ByteArray} {p n:Nat} (h:n=(((tx s).drop p).takeWhile (· != 93)).length):s.extract p (p+n)=⟨(((tx s).drop p).takeWhile (· != 93)).toArray⟩:=by
 apply ByteArray.ext
 apply Array.toList_inj.1
 have h1:(s.extract p (p+n)).data.toList=((tx s).drop p).take n:=by
  rw [Lib.extract_data,Nat.add_sub_cancel_left]
 rw [h1,h];have hp:=List.takeWhile_prefix (· != (93:UInt8)) (l:=(tx s).drop p);exact (List.prefix_iff_eq_take.1 hp).symm
theorem ext_end (s:ByteArray) (p:Nat):(s.extract p s.size).data.toList=(tx s).drop p:=by
 exact Lib.extract_to_end s p
theorem bracket_any (g:Nat) (s:ByteArray) (k:Nat) (w:World) (h:Rd w g s k) (hk0:k<s.size) (hs:s.size<=2097152):
  Calls prog 82 #[.pointer (some ⟨g,0,none⟩)] w (RP braV g s w (braA (tx s) k)):=by
 obtain ⟨R,hR⟩:∃ R,braA (tx s) k=R:=⟨_,rfl⟩;rw [hR];unfold braA at hR;have HR:=hid hR;have c1:=h.cell 1;have f1:=h.frozen 1;have h1:=rd_step h;have k1:=kp_step (v:= .int .i64 ((k+1:Nat):Int)) (Kp.refl (·=g) w) 1;have H1:=hid (And.intro h1 k1);clear hR h h1 k1;go_enter func82,ntmps82
 go_wp2_with fail
 have hcast:w.setCell ⟨g,1,none⟩ (.int .i64 ((k:Int)+1))=w.setCell ⟨g,1,none⟩ (.int .i64 ((k+1:Nat):Int)):=rfl;rw [hcast];clear hcast c1 f1;generalize w.setCell ⟨g,1,none⟩ (.int .i64 ((k+1:Nat):Int))=W at*
 have HO:=hid (one_any ⟨#[33]⟩ (by decide) g s (k+1) W H1.out.1 hk0 hs)
 rw [bang_list] at HO
 go_at_call 17
 refine HO.out.mono ?_
 rintro e w1 ⟨hcase,hg⟩
 have hst:∃ (c p:Nat) (sh:Bool),e= .returned (.int .u8 c)/\oneA (tx s) [33] (k+1)=sh/\p=(if sh=true then k+2 else k+1)/\Rd w1 g s p/\p<=s.size/\decide (0<c)=sh:=by
  rcases hcase with ⟨h1,c,_,h0,he,hr,hk⟩|⟨h1,he,hr⟩
  ·exact ⟨c,k+2,true,he,h1,rfl,hr,hk,decide_eq_true h0⟩
  ·exact ⟨0,k+1,false,he,h1,rfl,hr,hk0,rfl⟩
 obtain ⟨c,p,sh,rfl,h33,hp,hr,hps,hc⟩:=hst;have hR:=HR.out;rw [h33,<-hp] at hR;have K2:=hid (H1.out.2.trans hg);have H2:=hid hr;have c0:=hr.cell 0;have c1:=hr.cell 1;have f1:=hr.frozen 1;clear HO hcase hg hr h33 hp HR H1;have hidx:=idx_tw 93 ((tx s).drop p)
 have HI:=hid (show ∀ z,Calls prog 29 #[.string (s.extract p s.size),.int .u8 93] z fun e w'=>e= .returned (.int .i64 (Lib.indexByte ((tx s).drop p) 93))/\w'=z from fun z=>by
  have:=Tryz.strings_IndexByte (s.extract p s.size) 93 z;rw [Lib.extract_to_end] at this
  exact this)
 have hp0:(0:Int)<=(p:Int):=by omega
 have hp1:(p:Int)<=(s.size:Int):=by omega
 by_cases hmem:93∈(tx s).drop p
 ·rw [if_pos hmem] at hR
  have hi:=hidx.1 hmem;obtain ⟨n,hn⟩:∃ n,(((tx s).drop p).takeWhile (· != 93)).length=n:=⟨_,rfl⟩;rw [hn] at hi;rw [hi] at HI;have hext:=ext_tw hn.symm;obtain ⟨r,hr⟩:=tw_at (tx s) p hmem
  have hroom:p+n+1<=s.size:=by
   have:=congrArg List.length hr;rw [List.length_append,List.length_cons,hn,List.length_drop,tx_len] at this;omega
  rw [hn] at hR;have HR:=hid hR;have HX:=hid hext
  have hp2:(p:Int)<=(p:Int)+(n:Int):=by omega
  have hp3:(p:Int)+(n:Int)<=(s.size:Int):=by omega
  clear hR hi hn hext hr hidx hmem
  go_wp2_with fail
  go_quiet ((go_at_call 29;exact quiet_same HI.out))
  go_wp2_with fail
  have hwr:IntKind.i64.wrap ((p:Int)+(n:Int))=(p:Int)+(n:Int):=IntWalk.i64_in _ (by omega)
  have htn:((p:Int)+(n:Int)).toNat=p+n:=by omega
  have hge:(0:Int)<=(p:Int)+(n:Int):=by omega
  go_quiet (fail)
  clear hwr htn hge;go_wp2
  go_ret2
  show RP braV g s w R (.returned (.tuple #[.string (s.extract p (p+n)),.bool sh])) _
  rw [HX.out]
  have hnum:(p:Int)+((n:Int)+1)=((p+n+1:Nat):Int):=by omega
  rw [hnum];exact RP.done (enc:=braV) (v:=(_,sh)) HR.out.symm (kp_step (kp_drw K2.out _) 1) (rd_jump (H2.out.drewN _) _) hroom
 ·rw [if_neg hmem] at hR
  subst hR;rw [hidx.2 hmem] at HI;clear hidx hmem
  go_wp2_with fail
  go_quiet ((go_at_call 29;exact quiet_same HI.out))
  go_wp2_with (go_at_call 23;refine (wrong_any g _).mono ?_;rintro e w2 ⟨rfl,rfl⟩)
  exact ⟨rfl,kp_drw K2.out _,rfl⟩
end Gr
end
end Go.Proofs.YtiiekaehbahenaaGreatDoor
