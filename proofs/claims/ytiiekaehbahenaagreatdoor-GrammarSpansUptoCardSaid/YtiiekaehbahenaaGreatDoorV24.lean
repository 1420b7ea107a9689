/-
  Contracts of the code that the law reaches, and plain laws. Conditions: as each says.
-/
import Derived.Test.YtiiekaehbahenaaGreatDoorV23
set_option linter.all false
set_option maxHeartbeats 40000000
set_option maxRecDepth 100000
namespace Go.Proofs.YtiiekaehbahenaaGreatDoor
section
namespace Gr
open Go.RowKit Mem Atl Wid
abbrev Fit (v:Int):Prop:=0<=v/\v<9223372036854775808
structure UOk (n:Nat) (x:UnT):Prop where
 len:x.f.length=8
 fit:∀ v∈x.f,Fit v
 h0: -1<=x.had
 hn:x.had<n
 p0: -1<=x.part
 p9:x.part<1000000000
theorem cnt_fit {l:Txt}:∀ (f i:Nat) (n:Int) (ok:Bool),Fit n->Fit (cntA l f i n ok).1.1
 |0,i,n,ok,h=>h
 |f+1,i,n,ok,h=>by
  by_cases hd:dgA l i=true
  ·have hb:=dg_bd hd
   rw [cntA_yes hd rfl]
   refine cnt_fit f _ _ _ ?_
   split
   ·next hm=>
    have:=may_le (by simp only [Bool.and_eq_true] at hm;exact hm.2) (show ((byA l i:Int) - 48)<=9 by omega)
    exact ⟨by have:=h.1;omega,by omega⟩
   ·exact h
  ·rw [cntA_no (by simpa using hd)];exact h
theorem count_fit {l:Txt} {i:Nat} {x:(Int×Bool)×Nat} (h:countA l i=some x):Fit x.1.1:=by
 unfold countA at h
 split at h
 ·cases h;exact cnt_fit _ _ _ _ ⟨by decide,by decide⟩
 ·cases h
theorem fra_bd {l:Txt}:∀ (f i v:Nat),v<10 ^ (9 - f)->f<=9->(fraA l f i v).1*10 ^ (fraA l f i v).2.1<10 ^ 9
 |0,i,v,h,_=>by simpa [fraA] using h
 |f+1,i,v,h,hf=>by
  rw [fraA]
  split
  ·next hd=>
   have hb:=dg_bd hd
   refine fra_bd f _ _ ?_ (by omega)
   rw [show 9 - f=(9 - (f+1))+1 from by omega,Nat.pow_succ]
   omega
  ·simp only
   calc v*10 ^ (f+1)<10 ^ (9 - (f+1))*10 ^ (f+1):=Nat.mul_lt_mul_of_pos_right h (Nat.pow_pos (by decide))
    _=10 ^ 9:=by rw [<-Nat.pow_add];congr 1;omega
theorem part_bd {l:Txt} {i:Nat} {x:Int×Nat} (h:partA l i=some x): -1<=x.1/\x.1<1000000000:=by
 unfold partA at h
 split at h
 ·split at h
  ·cases h
  ·cases h
   have:=fra_bd (l:=l) 9 (i+1) 0 (by decide) (Nat.le_refl _)
   simp only;omega
 ·cases h;exact ⟨(by decide:(-1:Int)<=-1),(by decide:(-1:Int)<1000000000)⟩
theorem mem_set {l:List Int} {k:Nat} {v y:Int} (h:y∈l.set k v):y∈l\/y=v:=List.mem_or_eq_of_mem_set h
theorem wh_lt {l:Txt} {lets:List UInt8} {i j:Nat} (h:whA l lets i=some j):j<lets.length:=by
 unfold whA at h
 split at h
 ·split at h
  ·exact (List.findIdx?_eq_some_iff_getElem.1 h).1
  ·cases h
 ·cases h
theorem unit_ok {l:Txt} {lets:List UInt8} {b:Nat} {tm:Bool} {n:Nat} (hn:lets.length=n):∀ {f:Nat} {s:UnT} {i:Nat} {x:UnT×Nat},unitA l lets b tm f s i=some x->UOk n s->UOk n x.1
 |0,s,i,x,h,ho=>by cases h;exact ho
 |f+1,s,i,x,h,ho=>by
  rw [unitA] at h
  split at h
  ·obtain ⟨c,hc,h⟩:=Option.bind_eq_some_iff.1 h
   obtain ⟨p,hp,h⟩:=Option.bind_eq_some_iff.1 h;obtain ⟨j,hj,h⟩:=Option.bind_eq_some_iff.1 h
   split at h
   ·cases h
   ·refine unit_ok hn h ⟨by simpa using ho.len,fun v hv=>?_,?_,?_,?_,?_⟩
    ·rcases mem_set hv with hv|rfl
     ·exact ho.fit v hv
     ·exact count_fit hc
    ·simp only;omega
    ·have:=wh_lt hj;simp only;omega
    ·simp only
     split at hp
     ·exact (part_bd hp).1
     ·cases hp;exact ho.p0
    ·simp only
     split at hp
     ·exact (part_bd hp).2
     ·cases hp;exact ho.p9
  ·cases h;exact ho
theorem over_fit {f:List Int} {u p:Int} (hl:f.length=8) (h:∀ v∈f,Fit v) (hp0:0<=p) (hp:p<1000000000):(overF f u p).length=8/\∀ v∈overF f u p,Fit v:=by
 unfold overF
 split
 ·refine ⟨by simpa using hl,fun v hv=>?_⟩
  rcases mem_set hv with hv|rfl
  ·rcases mem_set hv with hv|rfl
   ·rcases mem_set hv with hv|rfl
    ·exact h v hv
    ·exact ⟨by omega,by omega⟩
   ·exact ⟨by omega,by omega⟩
  ·exact ⟨by omega,by omega⟩
 ·split
  ·refine ⟨by simpa using hl,fun v hv=>?_⟩
   rcases mem_set hv with hv|rfl
   ·rcases mem_set hv with hv|rfl
    ·exact h v hv
    ·exact ⟨by omega,by omega⟩
   ·exact ⟨by omega,by omega⟩
  ·refine ⟨by simpa using hl,fun v hv=>?_⟩
   rcases mem_set hv with hv|rfl
   ·exact h v hv
   ·exact ⟨by omega,by omega⟩
theorem zero_fit:∀ v∈([0,0,0,0,0,0,0,0]:List Int),Fit v:=by decide
theorem list_oct {f:List Int} (hl:f.length=8) (h:∀ v∈f,Fit v):∃ a b c d e g i j:Nat,f=[(a:Int),b,c,d,e,g,i,j]/\∀ k,oct a b c d e g i j k<9223372036854775808:=by
 match f,hl with
 |[x0,x1,x2,x3,x4,x5,x6,x7],_=>
  have hm:∀ v∈[x0,x1,x2,x3,x4,x5,x6,x7],v=((v.toNat:Nat):Int)/\v.toNat<9223372036854775808:=fun v hv=>by have:=h v hv;unfold Fit at this;omega
  simp only [List.mem_cons,List.not_mem_nil,or_false,forall_eq_or_imp,forall_eq] at hm;obtain ⟨h0,h1,h2,h3,h4,h5,h6,h7⟩:=hm
  refine ⟨x0.toNat,x1.toNat,x2.toNat,x3.toNat,x4.toNat,x5.toNat,x6.toNat,x7.toNat,by rw [<-h0.1,<-h1.1,<-h2.1,<-h3.1,<-h4.1,<-h5.1,<-h6.1,<-h7.1],fun k=>?_⟩
  unfold oct
  split<;>omega
theorem rightB_eq (D:Nat->Nat):rightB D=((decide (D 0<=4294967295) && decide (D 1<=4294967295) && decide (D 2<=4294967295)) && decide (D 3*lenU 4+(D 4*lenU 5+(D 5*lenU 6+(D 6*lenU 7+D 7*lenU 8)))<limN)):=by
 unfold rightB totN totL;rw [sum5L]
def rightL (f:List Int):Bool:=rightB fun k=>(flF f k).toNat
theorem right_oct (a b c d e g i j:Nat):rightL [(a:Int),b,c,d,e,g,i,j]=rightB (oct a b c d e g i j):=by
 rw [rightL,rightB_eq,rightB_eq]
 rfl
theorem dash_eq (l:Txt) (k:Nat):oneA l [45] k=((byA l k:Int) == 45):=by
 rw [oneA,byA]
 cases l[k]? with
 |none=>rfl
 |some c=>
  simp only [List.contains_cons,List.contains_nil,Bool.or_false];rw [Bool.eq_iff_iff];simp only [beq_iff_eq]
  constructor
  ·rintro rfl;rfl
  ·intro h
   exact UInt8.toNat_inj.1 (by show c.toNat=45;omega)
abbrev z8:List Int:=[0,0,0,0,0,0,0,0]
def spanO (neg:Bool) (r:Option (Bool×List Int)):List Int×Nat:=match r with
 |none=>(z8,6)
 |some x=>if (x.1 && rightL x.2)=true then (if neg=true then x.2.map (fun v=> -v) else x.2,0) else (z8,4)
def spanB (l:Txt):List Int×Nat:=spanO (oneA l [45] 0) (spanA l)
def spanV (l:Txt):Value:= .tuple #[.agg (durF (flF (spanB l).1)),.int .i64 (spanB l).2]
theorem neg_oct (a b c d e g i j:Nat):durF (negF (oct a b c d e g i j) 8)=durF (flF ([(a:Int),b,c,d,e,g,i,j].map (fun v=> -v))):=rfl
theorem span_ok {l:Txt} {x:Bool×List Int} (h:spanA l=some x):x.2.length=8/\∀ v∈x.2,Fit v:=by
 unfold spanA at h
 obtain ⟨i0,hi0⟩:∃ i0,(if oneA l [43,45] 0=true then 1 else 0)=i0:=⟨_,rfl⟩
 rw [hi0] at h
 split at h
 ·obtain ⟨y,hy,h⟩:=Option.bind_eq_some_iff.1 h
  have oy:=unit_ok (n:=4) rfl hy (UOk.mk rfl zero_fit (by decide:(-1:Int)<=-1) (by decide:(-1:Int)<4) (by decide:(-1:Int)<=-1) (by decide:(-1:Int)<1000000000))
  split at h
  ·obtain ⟨z,hz,h⟩:=Option.bind_eq_some_iff.1 h
   have oz:=unit_ok (n:=3) rfl hz (UOk.mk oy.len oy.fit (by decide:(-1:Int)<=-1) (by decide:(-1:Int)<3) (by decide:(-1:Int)<=-1) (by decide:(-1:Int)<1000000000))
   unfold endA at h
   split at h
   ·cases h
   ·split at h
    ·cases h
    ·cases h
     simp only
     split
     ·next hp=>exact over_fit oz.len oz.fit (by omega) oz.p9
     ·exact ⟨oz.len,oz.fit⟩
  ·unfold endA at h
   split at h
   ·cases h
   ·split at h
    ·cases h
    ·cases h;exact ⟨oy.len,oy.fit⟩
 ·cases h
end Gr
end
end Go.Proofs.YtiiekaehbahenaaGreatDoor
