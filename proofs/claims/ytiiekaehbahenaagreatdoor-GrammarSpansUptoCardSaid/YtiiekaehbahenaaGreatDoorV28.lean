/-
  Contracts of the code that the law reaches, and plain laws. Conditions: as each says.
-/
set_option linter.all false
set_option maxHeartbeats 40000000
set_option maxRecDepth 100000
namespace Go.Proofs.YtiiekaehbahenaaGreatDoor
section
namespace Dig
def dval:List Int->Int
 |[]=>0
 |d :: ds=>d+65536*dval ds
def Dig (ds:List Int):Prop:=∀ d∈ds,0<=d/\d<65536
def pw (n:Nat):Int:=65536 ^ n
theorem pw_zero:pw 0=1:=rfl
theorem pw_succ (n:Nat):pw (n+1)=65536*pw n:=by unfold pw;rw [Int.pow_succ,Int.mul_comm]
theorem pw_pos (n:Nat):0<pw n:=by
 induction n with
 |zero=>decide
 |succ n ih=>rw [pw_succ];omega
theorem pw_add (m n:Nat):pw (m+n)=pw m*pw n:=by unfold pw;rw [Int.pow_add]
theorem pw_mono {m n:Nat} (h:m<=n):pw m<=pw n:=by
 induction n with
 |zero=>obtain rfl:m=0:=by omega
        exact Int.le_refl _
 |succ n ih=>
  by_cases e:m=n+1
  ·subst e;exact Int.le_refl _
  ·have:=ih (by omega);have:=pw_pos n;rw [pw_succ];omega
theorem Dig.nil:Dig []:=fun _ h=>by cases h
theorem Dig.cons {d:Int} {ds:List Int} (h:0<=d/\d<65536) (hs:Dig ds):Dig (d :: ds):=by
 intro x hx;rcases List.mem_cons.1 hx with rfl|hx
 ·exact h
 ·exact hs x hx
theorem Dig.head {d:Int} {ds:List Int} (h:Dig (d :: ds)):0<=d/\d<65536:=h d (List.mem_cons_self ..)
theorem Dig.tail {d:Int} {ds:List Int} (h:Dig (d :: ds)):Dig ds:=fun x hx=>h x (List.mem_cons_of_mem _ hx)
theorem Dig.app {a b:List Int} (ha:Dig a) (hb:Dig b):Dig (a++b):=by
 intro x hx;rcases List.mem_append.1 hx with hx|hx
 ·exact ha x hx
 ·exact hb x hx
theorem Dig.snoc {a:List Int} {d:Int} (ha:Dig a) (h:0<=d/\d<65536):Dig (a++[d]):=ha.app (Dig.cons h Dig.nil)
theorem Dig.take {a:List Int} (h:Dig a) (n:Nat):Dig (a.take n):=fun x hx=>h x (List.mem_of_mem_take hx)
def dg (ds:List Int) (n:Nat):Int:=ds.getD n 0
theorem dg_past {ds:List Int} {n:Nat} (h:ds.length<=n):dg ds n=0:=by simp [dg,List.getD_eq_getElem?_getD,List.getElem?_eq_none h]
theorem dg_get {ds:List Int} {n:Nat} (h:n<ds.length):ds[n]?=some (dg ds n):=by simp [dg,List.getD_eq_getElem?_getD,List.getElem?_eq_getElem h]
theorem Dig.at_ {a:List Int} (h:Dig a) (n:Nat):0<=dg a n/\dg a n<65536:=by
 unfold dg
 by_cases hn:n<a.length
 ·have:=h a[n] (List.getElem_mem hn)
  simpa [List.getD_eq_getElem?_getD,List.getElem?_eq_getElem hn] using this
 ·have e:a.getD n 0=0:=by simp [List.getD_eq_getElem?_getD,List.getElem?_eq_none (by omega:a.length<=n)]
  rw [e];decide
theorem dval_nil:dval []=0:=rfl
theorem dval_cons (d:Int) (ds:List Int):dval (d :: ds)=d+65536*dval ds:=rfl
theorem dval_app (a b:List Int):dval (a++b)=dval a+pw a.length*dval b:=by
 induction a with
 |nil=>simp [dval_nil,pw_zero]
 |cons d a ih=>
  rw [List.cons_append,dval_cons,dval_cons,ih,List.length_cons,pw_succ,Int.mul_add,Int.mul_assoc];omega
theorem dval_snoc (a:List Int) (d:Int):dval (a++[d])=dval a+pw a.length*d:=by
 rw [dval_app,dval_cons,dval_nil];simp
theorem dval_nonneg {a:List Int} (h:Dig a):0<=dval a:=by
 induction a with
 |nil=>exact Int.le_refl _
 |cons d a ih=>have:=h.head;have:=ih h.tail;rw [dval_cons];omega
theorem dval_lt {a:List Int} (h:Dig a):dval a<pw a.length:=by
 induction a with
 |nil=>decide
 |cons d a ih=>have:=h.head;have:=ih h.tail;rw [dval_cons,List.length_cons,pw_succ];omega
theorem take_succ (a:List Int) (k:Nat) (h:k<a.length):a.take (k+1)=a.take k++[dg a k]:=by
 unfold dg
 rw [List.take_succ_eq_append_getElem h];simp [List.getD_eq_getElem?_getD,List.getElem?_eq_getElem h]
theorem dval_take_succ (a:List Int) (k:Nat):dval (a.take (k+1))=dval (a.take k)+pw k*dg a k:=by
 by_cases h:k<a.length
 ·rw [take_succ a k h,dval_snoc]
  rw [List.length_take,Nat.min_eq_left (by omega)]
 ·rw [dg_past (by omega),List.take_of_length_le (by omega),List.take_of_length_le (by omega)];simp
theorem dval_take_all {a:List Int} {k:Nat} (h:a.length<=k):dval (a.take k)=dval a:=by rw [List.take_of_length_le h]
theorem dval_drop {ds:List Int} {k:Nat} (h:k<ds.length):dval (ds.drop k)=dg ds k+65536*dval (ds.drop (k+1)):=by
 rw [List.drop_eq_getElem_cons h,dval_cons]
 simp [dg,List.getD_eq_getElem?_getD,List.getElem?_eq_getElem h]
theorem Dig.drop {ds:List Int} (h:Dig ds) (k:Nat):Dig (ds.drop k):=fun x hx=>h x (List.mem_of_mem_drop hx)
theorem dval_drop_le {ds:List Int} (h:Dig ds) (k:Nat):dval (ds.drop k)<=dval ds:=by
 induction k with
 |zero=>simp
 |succ k ih=>
  by_cases hk:k<ds.length
  ·rw [dval_drop hk] at ih
   have:=h.at_ k;have:=dval_nonneg (h.drop (k+1));omega
  ·rw [List.drop_eq_nil_of_le (by omega)]
   exact dval_nonneg h
theorem dval_set {ds:List Int} {k:Nat} (h:k<ds.length) (v:Int):dval (ds.set k v)=dval ds+pw k*(v - dg ds k):=by
 induction ds generalizing k with
 |nil=>simp at h
 |cons d ds ih=>
  cases k with
  |zero=>simp [dval_cons,pw_zero,dg,List.set];omega
  |succ k=>
   have h':k<ds.length:=by simpa using h
   have e:dg (d :: ds) (k+1)=dg ds k:=by simp [dg]
   rw [List.set,dval_cons,dval_cons,ih h',e,pw_succ,Int.mul_add,Int.mul_assoc];omega
theorem dg_set_same {ds:List Int} {k:Nat} (h:k<ds.length) (v:Int):dg (ds.set k v) k=v:=by simp [dg,List.getD_eq_getElem?_getD,h]
theorem dg_set_other {ds:List Int} {k p:Nat} (h:k≠p) (v:Int):dg (ds.set k v) p=dg ds p:=by simp [dg,List.getD_eq_getElem?_getD,h]
theorem Dig.set {ds:List Int} (h:Dig ds) {k:Nat} {v:Int} (hv:0<=v/\v<65536):Dig (ds.set k v):=by
 intro x hx
 rcases List.mem_or_eq_of_mem_set hx with hx|rfl
 ·exact h x hx
 ·exact hv
theorem dval_split (ds:List Int) (k:Nat):dval ds=dval (ds.take k)+pw k*dval (ds.drop k):=by
 by_cases hk:k<=ds.length
 ·have:=dval_app (ds.take k) (ds.drop k)
  rw [List.take_append_drop,List.length_take,Nat.min_eq_left hk] at this;exact this
 ·rw [List.take_of_length_le (by omega),List.drop_eq_nil_of_le (by omega)];simp [dval_nil]
theorem dg_zero_of_lt {ds:List Int} (h:Dig ds) {k p:Nat} (hv:dval ds<pw k) (hp:k<=p):dg ds p=0:=by
 by_cases hl:p<ds.length
 ·have h1:=dval_split ds p
  have h2:=dval_nonneg (h.take p);have h3:=dval_drop hl;have h4:=dval_nonneg (h.drop (p+1));have h5:=h.at_ p;have h6:=pw_mono hp;have h7:=pw_pos p
  refine Classical.byContradiction fun hne=>?_
  have h8:1<=dval (ds.drop p):=by omega
  have:=Int.mul_le_mul_of_nonneg_left h8 (Int.le_of_lt h7);omega
 ·exact dg_past (by omega)
theorem dval_replicate (n:Nat):dval (List.replicate n 0)=0:=by
 induction n with
 |zero=>rfl
 |succ n ih=>rw [List.replicate_succ,dval_cons,ih];rfl
theorem Dig.replicate (n:Nat):Dig (List.replicate n 0):=fun x hx=>by have:=(List.mem_replicate.1 hx).2;subst this;decide
theorem mul_step {v B0 x y q d P K Q t s:Int} (h:v+Q*q=B0+x*P*t) (hQ:Q=P*K) (hs:s=d+x*y+q):v+Q*(s % 65536 - d)+65536*Q*(s / 65536)=B0+x*P*(t+K*y):=by
 have e1:Q*(s % 65536)+65536*Q*(s / 65536)=Q*s:=by
  rw [Int.mul_comm 65536 Q,Int.mul_assoc,<-Int.mul_add]
  congr 1;omega
 have e2:x*P*(K*y)=Q*(x*y):=by
  rw [hQ,Int.mul_assoc,Int.mul_assoc,Int.mul_left_comm,<-Int.mul_assoc x K y,Int.mul_comm x K,Int.mul_assoc K x y]
 rw [Int.mul_add,e2,Int.mul_sub]
 have e3:Q*s=Q*d+Q*(x*y)+Q*q:=by rw [hs,Int.mul_add,Int.mul_add]
 omega
theorem bit_of {ds:List Int} (h:Dig ds) (k:Nat):dval ds / 2 ^ k=2*(dval ds / 2 ^ (k+1))+dg ds (k / 16) / 2 ^ (k % 16) % 2:=by
 have e1:dval ds / 2 ^ (k+1)=dval ds / 2 ^ k / 2:=by
  rw [Int.pow_succ,Int.ediv_ediv_of_nonneg (Int.le_of_lt (Int.pow_pos (by decide)))]
 have e2:dval ds / 2 ^ k % 2=dg ds (k / 16) / 2 ^ (k % 16) % 2:=by
  have hp:(2:Int) ^ k=pw (k / 16)*2 ^ (k % 16):=by
   have:pw (k / 16)=2 ^ (16*(k / 16)):=by unfold pw;rw [Int.pow_mul];rfl
   rw [this,<-Int.pow_add];congr 1;omega
  have hs:=dval_split ds (k / 16);have h1:=dval_nonneg (h.take (k / 16));have h2:=dval_lt (h.take (k / 16))
  have h3:=pw_mono (show (ds.take (k / 16)).length<=k / 16 by rw [List.length_take];omega)
  have h4:=pw_pos (k / 16)
  have e3:dval ds / pw (k / 16)=dval (ds.drop (k / 16)):=by
   rw [hs,Int.add_mul_ediv_left _ _ (by omega),Int.ediv_eq_zero_of_lt h1 (by omega)];omega
  rw [hp,<-Int.ediv_ediv_of_nonneg (Int.le_of_lt h4),e3]
  by_cases hl:k / 16<ds.length
  ·rw [dval_drop hl]
   have hj:k % 16<16:=Nat.mod_lt _ (by decide)
   have e4:(65536:Int)=2 ^ (k % 16)*(2*2 ^ (15 - k % 16)):=by
    rw [show (2:Int)*2 ^ (15 - k % 16)=2 ^ (16 - k % 16) by rw [<-Int.pow_succ'];congr 1;omega,<-Int.pow_add,show k % 16+(16 - k % 16)=16 by omega];rfl
   have hpos:(0:Int)<2 ^ (k % 16):=Int.pow_pos (by decide)
   have e5:65536*dval (ds.drop (k / 16+1))=2 ^ (k % 16)*(2*(2 ^ (15 - k % 16)*dval (ds.drop (k / 16+1)))):=by
    conv=>lhs;rw [e4]
    rw [Int.mul_assoc,Int.mul_assoc]
   rw [e5,Int.add_mul_ediv_left _ _ (by omega),Int.add_mul_emod_self_left]
  ·rw [List.drop_eq_nil_of_le (by omega),dg_past (by omega),dval_nil]
 rw [e1];omega
theorem dval_shift_all {ds:List Int} (h:Dig ds):dval ds / 2 ^ (16*ds.length)=0:=by
 have h1:=dval_nonneg h;have h2:=dval_lt h
 have:pw ds.length=2 ^ (16*ds.length):=by unfold pw;rw [Int.pow_mul];rfl
 rw [this] at h2;exact Int.ediv_eq_zero_of_lt h1 h2
theorem bit_bd (x:Int):0<=x % 2/\x % 2<=1:=by omega
def Canon (ds:List Int):Prop:=Dig ds/\ds.getLast?≠some 0
theorem Canon.nil:Canon []:=⟨Dig.nil,by simp⟩
theorem Canon.pos {ds:List Int} (h:Canon ds) (hn:ds≠[]):pw (ds.length - 1)<=dval ds:=by
 have e:ds=ds.dropLast++[ds.getLast hn]:=(List.dropLast_concat_getLast hn).symm
 have hl:ds.getLast hn≠0:=by intro e0;exact h.2 (by rw [List.getLast?_eq_some_getLast hn,e0])
 have hd:=h.1 _ (List.getLast_mem hn);have h0:0<=dval ds.dropLast:=dval_nonneg fun x hx=>h.1 x (List.dropLast_subset _ hx);rw [e,dval_snoc,<-e,List.length_dropLast];have hp:=pw_pos (ds.length - 1)
 have:=Int.mul_le_mul_of_nonneg_left (show 1<=ds.getLast hn by omega) (Int.le_of_lt hp)
 omega
theorem Canon.zero {ds:List Int} (h:Canon ds) (h0:dval ds=0):ds=[]:=by
 by_cases hn:ds=[]
 ·exact hn
 ·have:=h.pos hn;have:=pw_pos (ds.length - 1);omega
theorem Canon.len_lt {a b:List Int} (hb:Canon b) (ha:Dig a) (h:a.length<b.length):dval a<dval b:=by
 have hn:b≠[]:=by rintro rfl;simp at h
 have h1:=hb.pos hn;have h2:=dval_lt ha
 have h3:=pw_mono (show a.length<=b.length - 1 by omega)
 omega
theorem Canon.len_le {ds:List Int} (h:Canon ds) {k:Nat} (hv:dval ds<pw k):ds.length<=k:=by
 refine Nat.not_lt.mp fun hk=>?_
 have hn:ds≠[]:=by rintro rfl;simp at hk
 have:=h.pos hn
 have:=pw_mono (show k<=ds.length - 1 by omega)
 omega
theorem canon_take {ds:List Int} {n:Nat} (h:Dig ds) (hn:n<=ds.length) (h0:n=0\/dg ds (n - 1)≠0):Canon (ds.take n):=by
 refine ⟨h.take n,?_⟩
 rcases h0 with rfl|h0
 ·simp
 ·by_cases hz:n=0
  ·subst hz;simp
  ·obtain ⟨m,rfl⟩:∃ m,n=m+1:=⟨n - 1,by omega⟩
   rw [take_succ _ _ (by omega)]
   simp at h0 ⊢;exact h0
def cmpI (x y:Int):Int:=if x<y then -1 else if x=y then 0 else 1
theorem cmpI_lt {x y:Int} (h:x<y):cmpI x y= -1:=if_pos h
theorem cmpI_gt {x y:Int} (h:y<x):cmpI x y=1:=by unfold cmpI;rw [if_neg (by omega),if_neg (by omega)]
theorem cmpI_eq {x y:Int} (h:x=y):cmpI x y=0:=by unfold cmpI;rw [if_neg (by omega),if_pos h]
theorem cmpI_cases (x y:Int):(x<y/\cmpI x y= -1)\/(x=y/\cmpI x y=0)\/(y<x/\cmpI x y=1):=by
 rcases Int.lt_trichotomy x y with h|h|h
 ·exact .inl ⟨h,cmpI_lt h⟩
 ·exact .inr (.inl ⟨h,cmpI_eq h⟩)
 ·exact .inr (.inr ⟨h,cmpI_gt h⟩)
theorem cmp_step {a b:List Int} (ha:Dig a) (hb:Dig b) {k:Nat} (h:dg a k<dg b k):dval (a.take (k+1))<dval (b.take (k+1)):=by
 rw [dval_take_succ,dval_take_succ];have h1:=dval_nonneg (hb.take k);have h2:=dval_lt (ha.take k)
 have h3:=pw_mono (show (a.take k).length<=k by rw [List.length_take];omega)
 have h4:=pw_pos k
 have:=Int.mul_le_mul_of_nonneg_left (show dg a k+1<=dg b k by omega) (Int.le_of_lt h4)
 rw [Int.mul_add] at this;omega
theorem carry_step {v p q a b x y:Int} (h:v+p*q=a+b):v+p*((x+y+q) % 65536)+65536*p*((x+y+q) / 65536)=a+p*x+(b+p*y):=by
 have e:p*((x+y+q) % 65536)+65536*p*((x+y+q) / 65536)=p*(x+y+q):=by
  rw [Int.mul_comm 65536 p,Int.mul_assoc,<-Int.mul_add]
  congr 1;omega
 rw [Int.mul_add,Int.mul_add] at e;omega
theorem borrow_step {v p q a b x y s o:Int} (h:v=a - b+p*q) (hx:s=x - y - q+65536*o):v+p*s=a+p*x - (b+p*y)+65536*p*o:=by
 subst h hx;simp only [Int.mul_add,Int.mul_sub]
 have e:p*(65536*o)=65536*p*o:=by rw [<-Int.mul_assoc,Int.mul_comm p]
 omega
def sg (neg:Bool):Int:=if neg then -1 else 1
theorem sg_not (b:Bool) (x:Int):sg (!b)*x= -(sg b*x):=by cases b<;>simp [sg]
theorem sg_true (x:Int):sg true*x= -x:=by simp [sg]
theorem sg_false (x:Int):sg false*x=x:=by simp [sg]
end Dig
end
end Go.Proofs.YtiiekaehbahenaaGreatDoor
