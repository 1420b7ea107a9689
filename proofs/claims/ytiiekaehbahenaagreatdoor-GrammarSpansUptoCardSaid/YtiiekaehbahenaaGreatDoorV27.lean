/-
  Contracts of the code that the law reaches, and plain laws. Conditions: as each says.
-/
import Derived.Test.YtiiekaehbahenaaGreatDoorV24
set_option linter.all false
set_option maxHeartbeats 40000000
set_option maxRecDepth 100000
namespace Go.Proofs.YtiiekaehbahenaaGreatDoor
section
namespace Gr
open Go.RowKit Mem Atl Wid
abbrev maxI:Int:=9223372036854775807
def bigA (l:Txt):Nat->Nat->Int->Int×Nat
 |0,i,v=>(v,i)
 |f+1,i,v=>if dgA l i=true then bigA l f (i+1) (v*10+((byA l i:Int) - 48)) else (v,i)
def bigN (l:Txt) (i:Nat):Int×Nat:=bigA l (l.length - i) i 0
theorem may_iff {n d:Int} (hn:0<=n) (hd0:0<=d) (hd:d<=9):mayB n d=decide (n*10+d<=maxI):=by
 rw [Bool.eq_iff_iff];simp only [mayB,maxI,Bool.or_eq_true,Bool.and_eq_true,decide_eq_true_eq,beq_iff_eq];omega
theorem cnt_big {l:Txt}:∀ (f i:Nat) (v n:Int) (ok:Bool),0<=v->ok=decide (v<=maxI)->(ok=true->n=v)->
  (cntA l f i n ok).2=(bigA l f i v).2/\(cntA l f i n ok).1.2=decide ((bigA l f i v).1<=maxI)/\((cntA l f i n ok).1.2=true->(cntA l f i n ok).1.1=(bigA l f i v).1)/\0<=(bigA l f i v).1
 |0,i,v,n,ok,h0,h1,h2=>⟨rfl,h1,h2,h0⟩
 |f+1,i,v,n,ok,h0,h1,h2=>by
  by_cases hd:dgA l i=true
  ·have hb:=dg_bd hd
   obtain ⟨d,hdd⟩:∃ d:Int,(byA l i:Int) - 48=d:=⟨_,rfl⟩;rw [cntA_yes hd hdd,bigA,if_pos hd,hdd]
   refine cnt_big f (i+1) _ _ _ (by omega) ?_ ?_
   ·cases ok
    ·have:¬ v<=maxI:=by simpa using h1.symm
     rw [Bool.false_and]
     exact (decide_eq_false (by simp only [maxI] at this ⊢;omega)).symm
    ·rw [Bool.true_and,h2 rfl,may_iff h0 (by omega) (by omega)]
   ·intro h
    simp only [Bool.and_eq_true] at h
    rw [if_pos (by rw [h.1,h.2];rfl),h2 h.1]
  ·rw [cntA_no (by simpa using hd),bigA,if_neg hd]
   exact ⟨rfl,h1,h2,h0⟩
theorem count_big {l:Txt} {i:Nat} {x:(Int×Bool)×Nat} (h:countA l i=some x):x.2=(bigN l i).2/\x.1.2=decide ((bigN l i).1<=maxI)/\(x.1.2=true->x.1.1=(bigN l i).1)/\0<=(bigN l i).1:=by
 unfold countA at h
 split at h
 ·cases h;exact cnt_big _ _ 0 0 true (by decide) rfl (fun _=>rfl)
 ·cases h
theorem big_to {l:Txt}:∀ (f i:Nat) (v:Int),i<=(bigA l f i v).2
 |0,i,v=>Nat.le_refl _
 |f+1,i,v=>by
  rw [bigA]
  split
  ·have:=big_to (l:=l) f (i+1) (v*10+((byA l i:Int) - 48));omega
  ·exact Nat.le_refl _
theorem part_from {l:Txt} {i:Nat} {x:Int×Nat} (h:partA l i=some x):i<=x.2:=(part_cov h).1
structure DSt where
 tm:Bool
 sm:Bool
 last:Int
 part:Int
 unit:Int
 f:List Int
def whD (l:Txt) (tm:Bool) (k:Nat):Int:=if tm=true then (match whA l [72,77,83] k with|some j=>(j:Int)+4|none=> -1) else (match whA l [89,77,87,68] k with|some j=>(j:Int)|none=> -1)
def dspL (l:Txt):Nat->DSt->Nat->Option DSt
 |0,_,_=>none
 |g+1,s,i=>if i<l.length then
   if oneA l [84,116] i=true/\s.tm=false then dspL l g { s with tm:=true,sm:=false,last:=3 } (i+1)
   else if dgA l i=true/\s.part<0 then
    (if s.tm=true then partA l (bigN l i).2 else some (s.part,(bigN l i).2)).bind fun p=>
     if whD l s.tm p.2<=s.last then none else dspL l g ⟨s.tm,true,whD l s.tm p.2,p.1,whD l s.tm p.2,s.f.set (whD l s.tm p.2).toNat (bigN l i).1⟩ (p.2+1)
   else none
  else some s
def dspanA (l:Txt):Option DSt:=
 if oneA l [80,112] (if oneA l [43,45] 0=true then 1 else 0)=true then
  (dspL l (l.length+1) ⟨false,false,-1,-1,-1,z8⟩ ((if oneA l [43,45] 0=true then 1 else 0)+1)).bind fun s=>if s.sm=true then some s else none
 else none
structure Kept (room:Bool) (fl F:List Int):Prop where
 l1:fl.length=8
 l2:F.length=8
 pos:∀ v∈F,0<=v
 rm:room=F.all fun v=>decide (v<=maxI)
 eq:room=true->fl=F
theorem all_set {F:List Int} {k:Nat} {v:Int} (hk:k<F.length) (h0:F[k]<=maxI):(F.set k v).all (fun v=>decide (v<=maxI))=(F.all (fun v=>decide (v<=maxI)) && decide (v<=maxI)):=by
 rw [Bool.eq_iff_iff];simp only [Bool.and_eq_true,List.all_eq_true,decide_eq_true_eq]
 constructor
 ·intro h
  refine ⟨fun x hx=>?_,h v (List.mem_set hk v)⟩
  obtain ⟨j,hj,rfl⟩:=List.getElem_of_mem hx
  by_cases e:j=k
  ·subst e;exact h0
  ·exact h _ (by rw [List.mem_iff_getElem];exact ⟨j,by simpa using hj,by rw [List.getElem_set_ne (fun e2=>e e2.symm)]⟩)
 ·intro h x hx
  rcases mem_set hx with hx|rfl
  ·exact h.1 x hx
  ·exact h.2
theorem Kept.set {room:Bool} {fl F:List Int} (h:Kept room fl F) {k:Nat} (hk:k<8) (hz:F.getD k 0=0) {n v:Int} {ok:Bool} (hv:0<=v) (ho:ok=decide (v<=maxI)) (hn:ok=true->n=v):Kept (room && ok) (fl.set k n) (F.set k v):=by
 have hk2:k<F.length:=by rw [h.l2];exact hk
 refine ⟨by simpa using h.l1,by simpa using h.l2,fun x hx=>?_,?_,fun hr=>?_⟩
 ·rcases mem_set hx with hx|rfl
  ·exact h.pos x hx
  ·exact hv
 ·rw [all_set hk2 (by rw [List.getD_eq_getElem?_getD,List.getElem?_eq_getElem hk2] at hz;simp only [Option.getD_some] at hz;rw [hz];decide),<-h.rm,ho]
 ·simp only [Bool.and_eq_true] at hr
  rw [h.eq hr.1,hn hr.2]
theorem dg_no_t {l:Txt} {i:Nat} (h:dgA l i=true):oneA l [84,116] i=false:=by
 rw [dgA] at h;rw [oneA]
 cases hl:l[i]? with
 |none=>rfl
 |some c=>
  rw [hl] at h;simp only [Bool.and_eq_true,decide_eq_true_eq] at h;simp only [List.contains_cons,List.contains_nil,Bool.or_false,Bool.or_eq_false_iff,beq_eq_false_iff_ne]
  exact ⟨fun e=>by rw [e] at h;revert h;decide,fun e=>by rw [e] at h;revert h;decide⟩
theorem dg_in {l:Txt} {i:Nat} (h:dgA l i=true):i<l.length:=by
 rw [dgA] at h
 cases hl:l[i]? with
 |none=>rw [hl] at h;cases h
 |some c=>exact (List.getElem?_eq_some_iff.1 hl).1
theorem wh_in {l:Txt} {lets:List UInt8} {i j:Nat} (h:whA l lets i=some j):i+1<=l.length:=by
 unfold whA at h
 cases hl:l[i]? with
 |none=>rw [hl] at h;cases h
 |some c=>exact (List.getElem?_eq_some_iff.1 hl).1
structure RD (us:UnT) (st:DSt):Prop where
 tm:st.tm=false
 p1:us.part= -1
 p2:st.part= -1
 last:st.last=us.had
 sm:st.sm=decide (0<=us.had)
 kept:Kept us.room us.f st.f
 zero:∀ k:Nat,us.had<k->st.f.getD k 0=0
 h0: -1<=us.had
 h4:us.had<4
theorem getD_set_ne {F:List Int} {k j:Nat} {v:Int} (h:k≠j):(F.set j v).getD k 0=F.getD k 0:=by
 rw [List.getD_eq_getElem?_getD,List.getD_eq_getElem?_getD,List.getElem?_set_ne (fun e=>h e.symm)]
theorem dsp_date {l:Txt}:∀ (f:Nat) (us:UnT) (st:DSt) (i g:Nat),RD us st->(4:Int)<=f+us.had->l.length+1<=g+i->i<=l.length->
  match unitA l [89,77,87,68] 0 false f us i with
  |none=>dspL l g st i=none
  |some x=>∃ st' g',RD x.1 st'/\l.length+1<=g'+x.2/\dgA l x.2=false/\x.2<=l.length/\dspL l g st i=dspL l g' st' x.2
 |0,us,st,i,g,h,hf,hg,_=>absurd hf (by have:=h.h4;omega)
 |f+1,us,st,i,g,h,hf,hg,hil=>by
  by_cases hd:dgA l i=true
  ·have hi:=dg_in hd
   obtain ⟨g,rfl⟩:∃ k,g=k+1:=⟨g - 1,by omega⟩
   rw [unitA,if_pos ⟨hd,by rw [h.p1];decide⟩,dspL,if_pos hi,if_neg (by rw [dg_no_t hd];simp),if_pos ⟨hd,by rw [h.p2];decide⟩]
   cases hc:countA l i with
   |none=>rw [countA,if_pos hd] at hc;cases hc
   |some c=>
    obtain ⟨c1,c2,c3,c4⟩:=count_big hc;simp only [Option.bind_some,h.tm,Bool.false_eq_true,if_false];rw [<-c1];have hto:=big_to (l:=l) (l.length - i) i 0
    have hge:i<=c.2:=by rw [c1];exact hto
    cases hw:whA l [89,77,87,68] c.2 with
    |none=>
     have hwd:whD l false c.2= -1:=by simp [whD,hw]
     simp only [Option.bind_none]
     rw [hwd,if_pos (by rw [h.last];exact h.h0)]
    |some j=>
     have hwd:whD l false c.2=(j:Int):=by simp [whD,hw]
     have hj:=wh_lt hw;simp only [List.length_cons,List.length_nil] at hj;simp only [Option.bind_some];rw [hwd,h.last]
     by_cases hjh:(j:Int)<=us.had
     ·rw [if_pos hjh,if_pos hjh]
     ·rw [if_neg hjh,if_neg hjh]
      have hh:=h.h0
      have IH:=dsp_date (l:=l) f ⟨j,us.part,us.room && c.1.2,us.f.set (0+j) c.1.1⟩ ⟨false,true,j,st.part,j,st.f.set j (bigN l i).1⟩ (c.2+1) g
       ⟨rfl,h.p1,h.p2,rfl,by simp,by rw [Nat.zero_add];exact h.kept.set (by omega) (h.zero j (by omega)) c4 c2 c3,fun k hk=>by
        simp only at hk
        rw [getD_set_ne (by omega)];exact h.zero k (by omega),by simp only;omega,by simp only;omega⟩ (by simp only;omega) (by omega) (wh_in hw)
      rw [show ((j:Int)).toNat=j from rfl];exact IH
  ·rw [unitA,if_neg (fun e=>hd e.1)]
   exact ⟨st,g,h,hg,by simpa using hd,hil,rfl⟩
structure RT (us:UnT) (st:DSt):Prop where
 tm:st.tm=true
 p:st.part=us.part
 last:st.last=us.had+4
 sm:st.sm=decide (0<=us.had)
 kept:Kept us.room us.f st.f
 zero:∀ k:Nat,us.had+4<k->st.f.getD k 0=0
 h0: -1<=us.had
 h3:us.had<3
 un:0<=us.had->st.unit=us.had+4
 p0:us.had<0->us.part= -1
theorem dsp_time {l:Txt}:∀ (f:Nat) (us:UnT) (st:DSt) (i g:Nat),RT us st->(3:Int)<=f+us.had->l.length+1<=g+i->i<=l.length->
  match unitA l [72,77,83] 4 true f us i with
  |none=>dspL l g st i=none
  |some x=>∃ st' g',RT x.1 st'/\l.length+1<=g'+x.2/\¬ (dgA l x.2=true/\st'.part<0)/\x.2<=l.length/\dspL l g st i=dspL l g' st' x.2
 |0,us,st,i,g,h,hf,hg,_=>absurd hf (by have:=h.h3;omega)
 |f+1,us,st,i,g,h,hf,hg,hil=>by
  by_cases hd:dgA l i=true/\us.part<0
  ·have hi:=dg_in hd.1
   obtain ⟨g,rfl⟩:∃ k,g=k+1:=⟨g - 1,by omega⟩
   rw [unitA,if_pos hd,dspL,if_pos hi,if_neg (by rw [h.tm];simp),if_pos ⟨hd.1,by rw [h.p];exact hd.2⟩]
   cases hc:countA l i with
   |none=>rw [countA,if_pos hd.1] at hc;cases hc
   |some c=>
    obtain ⟨c1,c2,c3,c4⟩:=count_big hc;simp only [Option.bind_some,h.tm,if_true];rw [<-c1];have hto:=big_to (l:=l) (l.length - i) i 0
    have hge:i<=c.2:=by rw [c1];exact hto
    cases hp:partA l c.2 with
    |none=>rfl
    |some p=>
     have hpg:=part_from hp;simp only [Option.bind_some]
     cases hw:whA l [72,77,83] p.2 with
     |none=>
      have hwd:whD l true p.2= -1:=by simp [whD,hw]
      simp only [Option.bind_none]
      rw [hwd,if_pos (by rw [h.last];have:=h.h0;omega)]
     |some j=>
      have hwd:whD l true p.2=(j:Int)+4:=by simp [whD,hw]
      have hj:=wh_lt hw;simp only [List.length_cons,List.length_nil] at hj;simp only [Option.bind_some];rw [hwd,h.last];have hh:=h.h0
      by_cases hjh:(j:Int)<=us.had
      ·rw [if_pos hjh,if_pos (by omega)]
      ·rw [if_neg hjh,if_neg (by omega)]
       have IH:=dsp_time (l:=l) f ⟨j,p.1,us.room && c.1.2,us.f.set (4+j) c.1.1⟩ ⟨true,true,(j:Int)+4,p.1,(j:Int)+4,st.f.set (4+j) (bigN l i).1⟩ (p.2+1) g
        ⟨rfl,rfl,rfl,by simp,h.kept.set (by omega) (h.zero (4+j) (by push_cast;omega)) c4 c2 c3,fun k hk=>by
         simp only at hk
         rw [getD_set_ne (by omega)];exact h.zero k (by omega),by simp only;omega,by simp only;omega,fun _=>rfl,fun e=>by simp only at e;omega⟩ (by simp only;omega) (by omega) (wh_in hw)
       rw [show ((j:Int)+4).toNat=4+j from by omega]
       exact IH
  ·rw [unitA,if_neg hd]
   exact ⟨st,g,h,hg,by rw [h.p];exact hd,hil,rfl⟩
def madeF (s:DSt):List Int:=if 0<s.part then overF s.f (s.unit - 4) s.part else s.f
def madeB (neg:Bool) (s:DSt):List Int×Nat:=
 if ((madeF s).all (fun v=>decide (v<=maxI)) && rightL (madeF s))=true then (if neg=true then (madeF s).map (fun v=> -v) else madeF s,0) else (z8,4)
def dspanO (neg:Bool) (r:Option DSt):List Int×Nat:=match r with
 |none=>(z8,6)
 |some s=>madeB neg s
theorem all_fit {F:List Int} (h:∀ v∈F,0<=v) (ha:F.all (fun v=>decide (v<=maxI))=true):∀ v∈F,Fit v:=fun v hv=>by
 rw [List.all_eq_true] at ha;have:=ha v hv;simp only [decide_eq_true_eq,maxI] at this
 exact ⟨h v hv,by omega⟩
theorem fit_all {F:List Int} (h:∀ v∈F,Fit v):F.all (fun v=>decide (v<=maxI))=true:=by
 rw [List.all_eq_true];intro v hv;have:=(h v hv).2;simp only [decide_eq_true_eq,maxI];omega
theorem over_get {F:List Int} {u p:Int} {k:Nat} (h0:0<=u) (h3:u<3) (hk:(k:Int)<=u+4):(overF F u p).getD k 0=F.getD k 0:=by
 unfold overF
 split
 ·rw [getD_set_ne (by omega),getD_set_ne (by omega),getD_set_ne (by omega)]
 ·split
  ·rw [getD_set_ne (by omega),getD_set_ne (by omega)]
  ·rw [getD_set_ne (by omega)]
theorem not_all {F:List Int} {k:Nat} (h:maxI<F.getD k 0):F.all (fun v=>decide (v<=maxI))=false:=by
 rw [List.all_eq_false]
 by_cases hk:k<F.length
 ·rw [List.getD_eq_getElem?_getD,List.getElem?_eq_getElem hk] at h
  exact ⟨_,List.getElem_mem hk,by simpa using h⟩
 ·rw [List.getD_eq_getElem?_getD,List.getElem?_eq_none (by omega)] at h
  simp [maxI] at h
theorem big_at {F:List Int} (h:F.all (fun v=>decide (v<=maxI))=false):∃ k,maxI<F.getD k 0:=by
 rw [List.all_eq_false] at h;obtain ⟨v,hv,h⟩:=h;obtain ⟨k,hk,rfl⟩:=List.getElem_of_mem hv
 exact ⟨k,by rw [List.getD_eq_getElem?_getD,List.getElem?_eq_getElem hk];simpa using h⟩
theorem made_time {neg:Bool} {us:UnT} {st:DSt} (h:RT us st) (h0:0<=us.had) (hp:us.part<1000000000):madeB neg st=spanO neg (some (us.room,if 0<=us.had/\0<us.part then overF us.f us.had us.part else us.f)):=by
 have hu:=h.un h0
 by_cases hpp:0<us.part
 ·have e:madeF st=overF st.f us.had us.part:=by rw [madeF,h.p,if_pos hpp,hu];congr 1;omega
  have e3:(if 0<=us.had/\0<us.part then overF us.f us.had us.part else us.f)=overF us.f us.had us.part:=if_pos ⟨h0,hpp⟩
  rw [e3,madeB,e]
  cases hr:us.room
  ·have hb:st.f.all (fun v=>decide (v<=maxI))=false:=by rw [<-h.kept.rm,hr]
   obtain ⟨k,hk⟩:=big_at hb
   have hkk:(k:Int)<=us.had+4:=by
    refine Int.not_lt.1 fun hlt=>?_
    rw [h.zero k (by omega)] at hk
    simp [maxI] at hk
   rw [not_all (k:=k) (by rw [over_get h0 h.h3 hkk];exact hk)]
   rfl
  ·have e2:=h.kept.eq hr
   have ha:st.f.all (fun v=>decide (v<=maxI))=true:=by rw [<-h.kept.rm,hr]
   have hf:=over_fit (u:=us.had) h.kept.l2 (all_fit h.kept.pos ha) (by omega) hp
   rw [fit_all hf.2,spanO,e2]
 ·have e:madeF st=st.f:=by rw [madeF,h.p,if_neg hpp]
  have e3:(if 0<=us.had/\0<us.part then overF us.f us.had us.part else us.f)=us.f:=if_neg (fun x=>hpp x.2)
  rw [e3,madeB,e]
  cases hr:us.room
  ·have hb:st.f.all (fun v=>decide (v<=maxI))=false:=by rw [<-h.kept.rm,hr]
   rw [hb];rfl
  ·have e2:=h.kept.eq hr
   have ha:st.f.all (fun v=>decide (v<=maxI))=true:=by rw [<-h.kept.rm,hr]
   rw [ha,spanO,e2]
theorem made_date {neg:Bool} {us:UnT} {st:DSt} (h:RD us st):madeB neg st=spanO neg (some (us.room,us.f)):=by
 have e:madeF st=st.f:=by rw [madeF,h.p2,if_neg (by decide)]
 rw [madeB,e]
 cases hr:us.room
 ·have hb:st.f.all (fun v=>decide (v<=maxI))=false:=by rw [<-h.kept.rm,hr]
  rw [hb];rfl
 ·have e2:=h.kept.eq hr
  have ha:st.f.all (fun v=>decide (v<=maxI))=true:=by rw [<-h.kept.rm,hr]
  rw [ha,spanO,e2]
theorem dsp_stop {l:Txt} {g:Nat} {s:DSt} {i:Nat} (hg:0<g) (hi:¬ i<l.length):dspL l g s i=some s:=by
 obtain ⟨g,rfl⟩:∃ k,g=k+1:=⟨g - 1,by omega⟩
 rw [dspL,if_neg hi]
theorem dsp_bad {l:Txt} {g:Nat} {s:DSt} {i:Nat} (hi:i<l.length) (h1:¬ (oneA l [84,116] i=true/\s.tm=false)) (h2:¬ (dgA l i=true/\s.part<0)):dspL l g s i=none:=by
 cases g with
 |zero=>rfl
 |succ g=>rw [dspL,if_pos hi,if_neg h1,if_neg h2]
theorem kept_zero:Kept true z8 z8:=⟨rfl,rfl,by decide,by decide,fun _=>rfl⟩
theorem z8_zero (k:Nat):z8.getD k 0=0:=by
 match k with
 |0|1|2|3|4|5|6|7=>rfl
 |k+8=>rfl
theorem one_len' {l:Txt} {of:List UInt8} {i:Nat} (h:oneA l of i=true):i+1<=l.length:=by
 rw [oneA] at h
 cases hl:l[i]? with
 |none=>rw [hl] at h;cases h
 |some c=>exact (List.getElem?_eq_some_iff.1 hl).1
theorem unit_p9 {l:Txt} {lets:List UInt8} {b:Nat} {tm:Bool}:∀ {f:Nat} {s:UnT} {i:Nat} {x:UnT×Nat},unitA l lets b tm f s i=some x->s.part<1000000000->x.1.part<1000000000
 |0,s,i,x,h,ho=>by cases h;exact ho
 |f+1,s,i,x,h,ho=>by
  rw [unitA] at h
  split at h
  ·obtain ⟨c,hc,h⟩:=Option.bind_eq_some_iff.1 h
   obtain ⟨p,hp,h⟩:=Option.bind_eq_some_iff.1 h;obtain ⟨j,hj,h⟩:=Option.bind_eq_some_iff.1 h
   split at h
   ·cases h
   ·refine unit_p9 h ?_
    simp only
    split at hp
    ·exact (part_bd hp).2
    ·cases hp;exact ho
  ·cases h;exact ho
theorem dspan_is (l:Txt):dspanO (oneA l [45] 0) (dspanA l)=spanB l:=by
 rw [spanB];generalize oneA l [45] 0=neg;unfold dspanA spanA
 obtain ⟨i0,hi0⟩:∃ i0,(if oneA l [43,45] 0=true then 1 else 0)=i0:=⟨_,rfl⟩
 rw [hi0]
 by_cases hP:oneA l [80,112] i0=true
 ·rw [if_pos hP,if_pos hP]
  have hl:=one_len' hP
  have hD:=dsp_date (l:=l) 8 ⟨-1,-1,true,z8⟩ ⟨false,false,-1,-1,-1,z8⟩ (i0+1) (l.length+1) ⟨rfl,rfl,rfl,rfl,rfl,kept_zero,fun k _=>z8_zero k,by decide,by decide⟩ (by decide) (by omega) hl
  cases hu:unitA l [89,77,87,68] 0 false 8 ⟨-1,-1,true,z8⟩ (i0+1) with
  |none=>
   rw [hu] at hD;rw [hD];rfl
  |some x=>
   rw [hu] at hD;obtain ⟨st,g,hr,hg,hnd,hxl,he⟩:=hD;rw [he];simp only [Option.bind_some]
   by_cases hT:oneA l [84,116] x.2=true
   ·have hTl:=one_len' hT
    obtain ⟨g,rfl⟩:∃ k,g=k+1:=⟨g - 1,by omega⟩
    rw [if_pos hT,dspL,if_pos (by omega),if_pos ⟨hT,hr.tm⟩]
    have hTm:=dsp_time (l:=l) 8 ⟨-1,-1,x.1.room,x.1.f⟩ { st with tm:=true,sm:=false,last:=3 } (x.2+1) g
     ⟨rfl,hr.p2,rfl,rfl,hr.kept,fun k hk=>hr.zero k (by simp only at hk;have:=hr.h4;omega),(by decide:(-1:Int)<=-1),(by decide:(-1:Int)<3),fun e=>absurd e (by decide:¬ (0:Int)<=-1),fun _=>rfl⟩ (by decide:(3:Int)<=((8:Nat):Int)+ -1) (by omega) hTl
    cases hv:unitA l [72,77,83] 4 true 8 ⟨-1,-1,x.1.room,x.1.f⟩ (x.2+1) with
    |none=>
     rw [hv] at hTm;rw [hTm];rfl
    |some y=>
     rw [hv] at hTm;obtain ⟨st2,g2,hr2,hg2,hnd2,hyl,he2⟩:=hTm;rw [he2];simp only [Option.bind_some];unfold endA
     by_cases hyl2:y.2<l.length
     ·rw [dsp_bad hyl2 (by rw [hr2.tm];simp) hnd2]
      split<;>first|rfl|(rw [if_pos hyl2];rfl)
     ·rw [dsp_stop (by omega) hyl2,Option.bind_some,hr2.sm]
      by_cases h0:y.1.had<0
      ·rw [if_pos h0,decide_eq_false (by omega)];rfl
      ·rw [if_neg h0,if_neg hyl2,decide_eq_true (by omega),if_pos rfl]
       have hp9:y.1.part<1000000000:=unit_p9 hv (by decide:(-1:Int)<1000000000)
       exact made_time hr2 (by omega) hp9
   ·rw [if_neg hT]
    unfold endA
    by_cases hxl2:x.2<l.length
    ·rw [dsp_bad hxl2 (fun e=>hT e.1) (fun e=>by rw [hnd] at e;exact absurd e.1 (by decide))]
     split<;>first|rfl|(rw [if_pos hxl2];rfl)
    ·rw [dsp_stop (by omega) hxl2,Option.bind_some,hr.sm]
     by_cases h0:x.1.had<0
     ·rw [if_pos h0,decide_eq_false (by omega)];rfl
     ·rw [if_neg h0,if_neg hxl2,decide_eq_true (by omega),if_pos rfl]
      exact made_date hr
 ·rw [if_neg hP,if_neg hP];rfl
end Gr
end
end Go.Proofs.YtiiekaehbahenaaGreatDoor
