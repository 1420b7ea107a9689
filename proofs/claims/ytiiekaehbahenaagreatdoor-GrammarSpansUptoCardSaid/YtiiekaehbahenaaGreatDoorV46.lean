/-
  Contracts of the code that the law reaches, and plain laws. Conditions: as each says.
-/
import Derived.Test.YtiiekaehbahenaaGreatDoorRows
import Derived.Deep.Slices
import Derived.Test.YtiiekaehbahenaaGreatDoorV01
set_option linter.all false
set_option maxHeartbeats 40000000
set_option maxRecDepth 100000
namespace Go.Proofs.YtiiekaehbahenaaGreatDoor
open Go.Proofs.Tryz
section
namespace Opn
open Go.RowKit Go.WideShapes Go.ChangeShapes Mem
abbrev K:=Option (Option IntKind)
def kfits:K->Value->Prop
 |some (some k),v=>∃ n,v= .int k n/\(Lit.int k n).wf=true
 |some none,v=>∃ b,v= .bool b
 |none,v=>∃ s:ByteArray,v= .string s
def fits:List K->List Value->Prop
 |[],vs=>vs=[]
 |k :: ks,vs=>∃ v t,vs=v :: t/\kfits k v/\fits ks t
def letters:List Value->Nat
 |[]=>0
 | .string s :: t=>s.size+1+letters t
 |_ :: t=>1+letters t
theorem letters_len:∀ (vs:List Value),vs.length<=letters vs
 |[]=>Nat.le_refl _
 |v :: t=>by
  have:=letters_len t
  cases v<;>simp only [letters,List.length_cons]<;>omega
def kindsF (P:Program) (g:TypeId->Option (List K)):List Field->Nat->Option (List K)
 |[],_=>some []
 |f :: l,off=>if f.offset=off then (g f.type).bind fun ks=>if ks.length=P.cellsOf f.type then (kindsF P g l (off+ks.length)).map (ks++·) else none else none
def kinds (P:Program):Nat->TypeId->Option (List K)
 |0,_=>none
 |n+1,t=>match P.underlying t with
  |some .bool=>some [some none]
  |some (.int k)=>some [some (some k)]
  |some .string=>some [none]
  |some (.struct fs)=>(kindsF P (kinds P n) fs.toList 0).bind fun ks=>if ks.length=P.cellsOf t then some ks else none
  |_=>none
theorem fits_append:∀ {ks ks':List K} {vs vs':List Value},fits ks vs->fits ks' vs'->fits (ks++ks') (vs++vs')
 |[],_,_,_,h,h'=>by
  simp only [fits] at h;subst h;exact h'
 |_ :: ks,_,_,_,⟨v,t,e,h1,h2⟩,h'=>by
  subst e;exact ⟨v,t++_,rfl,h1,fits_append h2 h'⟩
theorem fits_length:∀ {ks:List K} {vs:List Value},fits ks vs->vs.length=ks.length
 |[],_,h=>by
  simp only [fits] at h;subst h
  rfl
 |_ :: ks,_,⟨v,t,e,_,h2⟩=>by
  subst e;simp [fits_length h2]
theorem letters_append:∀ (vs vs':List Value),letters (vs++vs')=letters vs+letters vs'
 |[],_=>by simp [letters]
 |v :: t,vs'=>by
  have ih:=letters_append t vs'
  cases v<;>simp only [letters,List.cons_append,ih]<;>omega
theorem one_le {H:Type} (d:DataW H):1<=Rows.uptoBulk d:=by
 cases d with
 |lit l=>cases l<;>simp [Rows.uptoBulk]
 |nil=>simp [Rows.uptoBulk]
 |ptr d=>simp [Rows.uptoBulk]
 |slice elems spare=>simp [Rows.uptoBulk]
 |agg parts=>simp [Rows.uptoBulk]
 |iface t d=>simp [Rows.uptoBulk]
 |map entries=>simp [Rows.uptoBulk]
 |held h=>simp [Rows.uptoBulk]
theorem part_le {H:Type} {d:DataW H} {l:List (DataW H)} (h:d∈l):Rows.uptoBulk d<=Rows.uptoBulkAll l:=by
 induction l with
 |nil=>cases h
 |cons x r ih=>
  simp only [Rows.uptoBulkAll]
  cases List.mem_cons.1 h with
  |inl e=>subst e;omega
  |inr e=>have:=ih e;omega
theorem all_le {H:Type} {k:Nat}:∀ (l:List (DataW H)),(∀ d∈l,k<=Rows.uptoBulk d)->l.length*k<=Rows.uptoBulkAll l
 |[],_=>by simp
 |d :: t,h=>by
  have h1:=h d (by simp)
  have h2:=all_le t fun x hx=>h x (by simp [hx])
  simp only [Rows.uptoBulkAll,List.length_cons,Nat.succ_mul];omega
theorem length_le {H:Type} (l:List (DataW H)):l.length<=Rows.uptoBulkAll l:=by
 induction l with
 |nil=>simp [Rows.uptoBulkAll]
 |cons x r ih=>have:=one_le x;simp only [Rows.uptoBulkAll,List.length_cons];omega
section
variable {H:Type} {enc:TypeId×Value->H} {P:Program} {w w':World} {base:Nat} {sp:Nat->Bool} {held:Bool}
theorem fields_lem {cs:List Value} {m:Nat} (g:TypeId->Option (List K))
  (hg:∀ t ks cs x,g t=some ks->DataW.trod enc P w base sp held m t cs=some x->fits ks cs/\letters cs<=Rows.uptoBulk x.1/\x.2=[]):
  ∀ (l:List Field) (off:Nat) (ks:List K) (xs:List (DataW H×List MemPlace)),kindsF P g l off=some ks->xs.length=l.length->
   (∀ (i:Nat) (f:Field),l[i]?=some f->DataW.trod enc P w base sp held m f.type ((cs.drop f.offset).take (P.cellsOf f.type))=xs[i]?)->
   fits ks ((cs.drop off).take ks.length)/\letters ((cs.drop off).take ks.length)<=Rows.uptoBulkAll (xs.map (·.1))/\xs.flatMap (·.2)=[]
 |[],off,ks,xs,hk,hl,_=>by
  simp only [kindsF,Option.some.injEq] at hk;subst hk;obtain rfl:xs=[]:=List.length_eq_zero_iff.1 hl;simp [fits,letters]
 |f :: l,off,ks,[],_,hl,_=>by simp at hl
 |f :: l,off,ks,x :: xs,hk,hl,hf=>by
  unfold kindsF at hk
  split at hk
  ·next ho=>
   obtain ⟨k1,h1,hk⟩:=Option.bind_eq_some_iff.1 hk
   split at hk
   ·next hlen=>
    obtain ⟨k2,h2,rfl⟩:=Option.map_eq_some_iff.1 hk;have h0:=hf 0 f rfl;rw [ho,<-hlen] at h0;obtain ⟨a1,a2,a3⟩:=hg _ _ _ _ h1 h0
    obtain ⟨b1,b2,b3⟩:=fields_lem g hg l (off+k1.length) k2 xs h2 (by simpa using hl) fun i f' hf'=>hf (i+1) f' hf'
    have hcut:(cs.drop off).take (k1++k2).length=(cs.drop off).take k1.length++(cs.drop (off+k1.length)).take k2.length:=by
     rw [List.length_append,List.take_add,List.drop_drop]
    rw [hcut,letters_append]
    refine ⟨fits_append a1 b1,?_,?_⟩
    ·simp only [List.map_cons,Rows.uptoBulkAll]
     omega
    ·simp [a3,b3]
   ·cases hk
  ·cases hk
theorem kinds_trod:∀ (n:Nat) (t:TypeId) (ks:List K) (fuel:Nat) (cs:List Value) (x:DataW H×List MemPlace),kinds P n t=some ks->DataW.trod enc P w base sp held fuel t cs=some x->
  fits ks cs/\letters cs<=Rows.uptoBulk x.1/\x.2=[]
 |0,_,_,_,_,_,hk,_=>by simp [kinds] at hk
 |n+1,t,ks,fuel,cs,x,hk,h=>by
  unfold kinds at hk
  split at hk
  ·next hu=>
   obtain rfl:=Option.some.inj hk;obtain ⟨b,rfl,rfl⟩:=DataW.trod_bool hu h;simp [fits,kfits,letters,Rows.uptoBulk]
  ·next k hu=>
   obtain rfl:=Option.some.inj hk;obtain ⟨b,rfl,rfl,hw⟩:=DataW.trod_int hu h;simp [fits,kfits,letters,hw,Rows.uptoBulk]
  ·next hu=>
   obtain rfl:=Option.some.inj hk;obtain ⟨s,rfl,rfl,hw⟩:=DataW.trod_string hu h;simp [fits,kfits,letters,Rows.uptoBulk]
  ·next fs hu=>
   obtain ⟨ks',h1,h2⟩:=Option.bind_eq_some_iff.1 hk
   split at h2
   ·next hlen=>
    obtain rfl:=Option.some.inj h2;obtain ⟨xs,m,_,rfl,hl,hxs,hf⟩:=DataW.trod_struct hu h
    obtain ⟨a1,a2,a3⟩:=fields_lem (cs:=cs) (m:=m) (kinds P n) (fun t ks cs x hk h=>kinds_trod n t ks m cs x hk h) fs.toList 0 ks' xs h1 (by simpa using hxs) fun i f hi=>hf i f (by simpa using hi)
    rw [List.drop_zero,hlen,<-hl,List.take_length] at a1 a2
    refine ⟨a1,?_,a3⟩
    simp only [Rows.uptoBulk];omega
   ·cases h2
  ·cases hk
theorem flat_read {a:Addr} {C:Nat}:∀ (rows:List (List Value)) (i0:Nat),(∀ i r,rows[i]?=some r->∀ k u,r[k]?=some u->w.cell? (a.add ((i0+i)*C+k))=some u)->(∀ r∈rows,r.length=C)->
  ∀ j u,rows.flatten[j]?=some u->w.cell? (a.add (i0*C+j))=some u
 |[],_,_,_,j,u,h=>by simp at h
 |r :: t,i0,hr,hl,j,u,h=>by
  have hlen:r.length=C:=hl r (by simp)
  rw [List.flatten_cons] at h
  by_cases hj:j<C
  ·rw [List.getElem?_append_left (by omega)] at h
   have:=hr 0 r rfl j u h
   simpa using this
  ·rw [List.getElem?_append_right (by omega),hlen] at h
   have ih:=flat_read t (i0+1) (fun i r' hi k u' hk=>by
    have:=hr (i+1) r' (by simpa using hi) k u' hk
    rwa [show i0+(i+1)=i0+1+i by omega] at this) (fun r' hr'=>hl r' (by simp [hr'])) (j - C) u h
   rwa [show (i0+1)*C+(j - C)=i0*C+j by rw [Nat.succ_mul];omega] at ih
theorem flat_len {C:Nat}:∀ (rows:List (List Value)),(∀ r∈rows,r.length=C)->rows.flatten.length=rows.length*C
 |[],_=>by simp
 |r :: t,h=>by
  rw [List.flatten_cons,List.length_append,h r (by simp),flat_len t fun r' hr=>h r' (by simp [hr]),List.length_cons,Nat.succ_mul]
  omega
theorem open_rows {t e:TypeId} {C fuel B:Nat} {v:Value} {x:DataW H×List MemPlace} (ht:P.underlying t=some (.slice e)) (hC:P.cellsOf e=C) (hpos:0<C)
  (h:DataW.trod enc P w 0 (fun _=>true) held fuel t [v]=some x) (hlt:∀ p∈x.2,p.block<B):
  ∃ (A:Option Addr) (c:Nat) (rows:List (List Value)),v= .slice A rows.length c/\(∀ k:Nat,(∀ n r y,DataW.trod enc P w 0 (fun _=>true) held n e r=some y->k<=Rows.uptoBulk y.1)->rows.length*k<=Rows.uptoBulk x.1)/\Reads w B C A rows.length rows.flatten/\
   ∀ r∈rows,∃ n y,DataW.trod enc P w 0 (fun _=>true) held n e r=some y/\r.length=C/\Rows.uptoBulk y.1<=Rows.uptoBulk x.1/\∀ p∈y.2,p.block<B:=by
 rcases Go.Deep.open_slice ht h with ⟨hcs,rfl⟩|⟨a,len,cap,m,n,D,Pl,hcs,hb,hl,hm,hmm,rfl,hi⟩
 ·injection hcs with hcs
  subst hcs
  exact ⟨none,0,[],rfl,fun k _=>by simp,Reads.none_,by simp⟩
 ·injection hcs with hcs
  subst hcs;simp only [if_true] at hmm;subst hmm;have hch:∃ f:Nat->List Value,∀ i,i<m->w.cells? 0 (a.add (i*P.cellsOf e)) (P.cellsOf e)=some (f i)/\DataW.trod enc P w 0 (fun _=>true) held n e (f i)=some (D i,Pl i):=Go.Deep.choose_lt hi;obtain ⟨f,hf⟩:=hch;rw [hC] at hf
  have hrl:∀ r∈(List.range len).map f,r.length=C:=fun r hr=>by
   obtain ⟨i,hi',rfl⟩:=List.mem_map.1 hr
   exact (World.cells?_some (hf i (by have:=List.mem_range.1 hi';omega)).1).2.1
  have hll:((List.range len).map f).length=len:=by simp
  have hbulk:Rows.uptoBulkAll ((List.range len).map D)<=Rows.uptoBulk (DataW.slice ((List.range len).map D) ((List.range (m - len)).map fun j=>D (len+j))):=by
   simp only [Rows.uptoBulk];omega
  refine ⟨some a,m,(List.range len).map f,by rw [hll],?_,⟨by rw [flat_len _ hrl],fun h0=>?_⟩,fun r hr=>?_⟩
  ·intro k hk
   have:=all_le (k:=k) ((List.range len).map D) fun d hd=>by
    obtain ⟨i,hi',rfl⟩:=List.mem_map.1 hd
    exact hk n _ _ (hf i (by have:=List.mem_range.1 hi';omega)).2
   simp only [List.length_map,List.length_range] at this ⊢;exact Nat.le_trans this hbulk
  ·rw [hll] at h0
   refine ⟨a,rfl,?_,?_⟩
   ·have hp:MemPlace.cell a.block (a.off+0)∈MemPlace.row a (m*P.cellsOf e)++(List.range m).flatMap Pl:=by
     refine List.mem_append_left _ (List.mem_map.2 ⟨0,List.mem_range.2 (Nat.mul_pos (by omega) (by omega)),rfl⟩)
    exact hlt _ hp
   ·have:=flat_read (w:=w) (a:=a) (C:=C) ((List.range len).map f) 0 (fun i r hr k u hk=>by
     rw [List.getElem?_map] at hr
     obtain ⟨i',hi',rfl⟩:=Option.map_eq_some_iff.1 hr
     have hil:i<len:=by
      have:=(List.getElem?_eq_some_iff.1 hi').1
      simpa using this
     have e1:i'=i:=by
      have:=(List.getElem?_eq_some_iff.1 hi').2
      simpa using this.symm
     subst e1
     have hcc:=(World.cells?_some (hf i' (by omega)).1)
     have hk2:k<C:=by
      have:=(List.getElem?_eq_some_iff.1 hk).1
      omega
     have:=hcc.2.2 k hk2;rw [add_of_add] at this
     rw [Nat.zero_add,this,hk]) hrl
    intro j u hu;have:=this j u hu
    rwa [Nat.zero_mul,Nat.zero_add] at this
  ·obtain ⟨i,hi',rfl⟩:=List.mem_map.1 hr
   have hil:=List.mem_range.1 hi'
   obtain ⟨h1,h2⟩:=hf i (by omega)
   refine ⟨n,_,h2,(World.cells?_some h1).2.1,?_,fun p hp=>hlt p (List.mem_append_right _ (List.mem_flatMap.2 ⟨i,List.mem_range.2 (by omega),hp⟩))⟩
   have:Rows.uptoBulk (D i)<=Rows.uptoBulkAll ((List.range len).map D):=part_le (List.mem_map.2 ⟨i,hi',rfl⟩);exact Nat.le_trans this hbulk
theorem open_flat {t e:TypeId} {C fuel B:Nat} {ks:List K} {v:Value} {x:DataW H×List MemPlace} (k:Nat) (ht:P.underlying t=some (.slice e)) (hk:kinds P k e=some ks) (hC:P.cellsOf e=C) (hpos:0<C)
  (h:DataW.trod enc P w 0 (fun _=>true) held fuel t [v]=some x) (hlt:∀ p∈x.2,p.block<B):
  ∃ (A:Option Addr) (c:Nat) (rows:List (List Value)),v= .slice A rows.length c/\rows.length*ks.length<=Rows.uptoBulk x.1/\Reads w B C A rows.length rows.flatten/\
   ∀ r∈rows,fits ks r/\letters r<=Rows.uptoBulk x.1:=by
 obtain ⟨A,c,rows,h1,h2,h3,h4⟩:=open_rows ht hC hpos h hlt
 refine ⟨A,c,rows,h1,h2 ks.length fun n r y h=>?_,h3,fun r hr=>?_⟩
 ·obtain ⟨a1,a2,_⟩:=kinds_trod k e ks n r y hk h
  have:=letters_len r;have:=fits_length a1;omega
 obtain ⟨n,y,ha,_,hb,_⟩:=h4 r hr;obtain ⟨a1,a2,_⟩:=kinds_trod k e ks n r y hk ha
 exact ⟨a1,by omega⟩
end
theorem rows_of {α:Type} (f:α->List Value) (q:α->Prop):∀ (rows:List (List Value)),(∀ r∈rows,∃ a,r=f a/\q a)->∃ l:List α,rows.flatten=l.flatMap f/\rows.length=l.length/\∀ a∈l,q a
 |[],_=>⟨[],rfl,rfl,by simp⟩
 |r :: t,h=>by
  obtain ⟨a,rfl,ha⟩:=h r (by simp)
  obtain ⟨l,h1,h2,h3⟩:=rows_of f q t fun r' hr=>h r' (by simp [hr])
  refine ⟨a :: l,?_,by simp [h2],fun b hb=>?_⟩
  ·rw [List.flatten_cons,List.flatMap_cons,h1]
  ·rcases List.mem_cons.1 hb with rfl|hb
   ·exact ha
   ·exact h3 b hb
def plainT (P:Program):Nat->TypeId->Bool
 |0,_=>false
 |n+1,t=>match P.underlying t with
  |some .bool=>true
  |some (.int _)=>true
  |some .string=>true
  |some (.struct fs)=>fs.toList.all fun f=>plainT P n f.type
  |some (.slice e)=>decide (0<P.cellsOf e) && plainT P n e
  |_=>false
theorem mapM_of_get {α β:Type} (f:α->Option β):∀ (l:List α) (r:List β),r.length=l.length->(∀ (i:Nat) (x:α),l[i]?=some x->f x=r[i]?)->l.mapM f=some r
 |[],r,hl,_=>by
  obtain rfl:r=[]:=List.length_eq_zero_iff.1 hl
  rfl
 |a :: l,[],hl,_=>by simp at hl
 |a :: l,b :: r,hl,h=>by
  have h0:f a=some b:=h 0 a rfl
  have ih:=mapM_of_get f l r (by simpa using hl) fun i x hx=>h (i+1) x hx
  simp [List.mapM_cons,h0,ih]
section
variable {H:Type} {enc:TypeId×Value->H} {P:Program} {w w':World} {B:Nat} {sp:Nat->Bool} {held:Bool}
theorem cells_keep {base:Nat} {a:Addr} (hb:Below B w w') (ha:a.block<B) (n:Nat):w'.cells? base a n=w.cells? base a n:=by
 unfold World.cells?
 congr 1
 congr 1
 funext i
 exact hb.cell (by rw [block_of_add];exact ha)
theorem trod_keep (hb:Below B w w'):∀ (n:Nat) (t:TypeId) (fuel:Nat) (cs:List Value) (x:DataW H×List MemPlace),plainT P n t=true->DataW.trod enc P w 0 (fun _=>true) held fuel t cs=some x->
  (∀ p∈x.2,sp p.block=true/\p.block<B)->DataW.trod enc P w' 0 sp held fuel t cs=some x
 |0,_,_,_,_,hp,_,_=>by simp [plainT] at hp
 |n+1,t,fuel,cs,x,hp,h,hx=>by
  unfold plainT at hp
  split at hp
  ·next hu=>
   obtain ⟨b,rfl,rfl⟩:=DataW.trod_bool hu h
   cases fuel with
   |zero=>simp [DataW.trod] at h
   |succ m=>simp [DataW.trod,hu]
  ·next k hu=>
   obtain ⟨b,rfl,rfl,hw⟩:=DataW.trod_int hu h
   cases fuel with
   |zero=>simp [DataW.trod] at h
   |succ m=>simp [DataW.trod,hu,hw]
  ·next hu=>
   obtain ⟨s,rfl,rfl,hw⟩:=DataW.trod_string hu h
   cases fuel with
   |zero=>simp [DataW.trod] at h
   |succ m=>simp [DataW.trod,hu,hw]
  ·next fs hu=>
   obtain ⟨xs,m,rfl,rfl,hl,hxs,hf⟩:=DataW.trod_struct hu h
   refine trod_struct_mk hu hl (mapM_of_get _ _ _ (by simpa using hxs) fun i f hi=>?_)
   have hi':fs[i]?=some f:=by simpa using hi
   have h1:=hf i f hi'
   have hil:i<xs.length:=by
    have:=(Array.getElem?_eq_some_iff.1 hi').1
    omega
   rw [List.getElem?_eq_getElem hil] at h1 ⊢
   refine trod_keep hb n f.type m _ _ ?_ h1 fun p hpm=>hx p (List.mem_flatMap.2 ⟨xs[i],List.getElem_mem hil,hpm⟩)
   exact List.all_eq_true.1 hp f (List.mem_of_getElem? hi)
  ·next e hu=>
   simp only [Bool.and_eq_true,decide_eq_true_eq] at hp
   rcases DataW.trod_slice hu h with ⟨rfl,rfl⟩|⟨a,len,cap,elems,rest,m,rfl,rfl,rfl,hba,hl,hm,hlen,hel,hrs,_⟩
   ·cases fuel with
    |zero=>simp [DataW.trod] at h
    |succ m=>simp [DataW.trod,hu]
   ·obtain ⟨hr1,hr2⟩:=hrs rfl
    have hpl:0<cap->sp a.block=true/\a.block<B:=fun hc=>hx (.cell a.block (a.off+0)) (List.mem_append_left _ (List.mem_map.2 ⟨0,List.mem_range.2 (by rw [hlen,hr1];exact Nat.mul_pos (by omega) hp.1),rfl⟩))
    have one:∀ (i:Nat) (y:DataW H×List MemPlace),0<cap->y∈elems++rest->((w.cells? 0 (a.add (i*P.cellsOf e)) (P.cellsOf e)).bind (DataW.trod enc P w 0 (fun _=>true) held m e))=some y->
      ((w'.cells? 0 (a.add (i*P.cellsOf e)) (P.cellsOf e)).bind (DataW.trod enc P w' 0 sp held m e))=some y:=fun i y hc hy h1=>by
     obtain ⟨cs',h2,h3⟩:=Option.bind_eq_some_iff.1 h1
     rw [cells_keep hb (by rw [block_of_add];exact (hpl hc).2),h2,Option.bind_some]
     exact trod_keep hb n e m cs' y hp.2 h3 fun p hpm=>hx p (List.mem_append_right _ (List.mem_flatMap.2 ⟨y,hy,hpm⟩))
    have e1:(List.range len).mapM (fun i=>(w'.cells? 0 (a.add (i*P.cellsOf e)) (P.cellsOf e)).bind (DataW.trod enc P w' 0 sp held m e))=some elems:=by
     refine mapM_of_get _ _ _ (by simpa using hlen) fun i y hi=>?_
     have hil:i<len:=by
      have:=(List.getElem?_eq_some_iff.1 hi).1
      simpa using this
     have e2:y=i:=by
      have:=(List.getElem?_eq_some_iff.1 hi).2
      simpa using this.symm
     subst e2;have h1:=hel y hil
     rw [List.getElem?_eq_getElem (by omega)] at h1 ⊢
     exact one y _ (by omega) (List.mem_append_left _ (List.getElem_mem _)) h1
    have e2:(if sp a.block=true then (List.range (cap - len)).mapM (fun j=>(w'.cells? 0 (a.add ((len+j)*P.cellsOf e)) (P.cellsOf e)).bind (DataW.trod enc P w' 0 sp held m e)) else some [])=some rest:=by
     by_cases hc:0<cap
     ·rw [if_pos (hpl hc).1]
      refine mapM_of_get _ _ _ (by simpa using hr1) fun i y hi=>?_
      have hil:i<cap - len:=by
       have:=(List.getElem?_eq_some_iff.1 hi).1
       simpa using this
      have e2:y=i:=by
       have:=(List.getElem?_eq_some_iff.1 hi).2
       simpa using this.symm
      subst e2;have h1:=hr2 y hil
      rw [List.getElem?_eq_getElem (by omega)] at h1 ⊢
      exact one (len+y) _ hc (List.mem_append_right _ (List.getElem_mem _)) h1
     ·obtain rfl:rest=[]:=List.length_eq_zero_iff.1 (by omega)
      rw [show cap - len=0 by omega]
      split<;>rfl
    simp only [DataW.trod,hu];rw [if_pos ⟨Nat.zero_le _,hl,hm⟩,e1,Option.bind_some,e2,Option.map_some]
  ·cases hp
theorem all_keep (hb:Below B w w') (n:Nat):∀ (ts:List TypeId) (vs:List Value) (ds:List (DataW H)) (p:List MemPlace),ts.all (plainT P n)=true->DataW.TrodAll enc P w 0 (fun _=>true) held ts vs ds p->
  (∀ q∈p,sp q.block=true/\q.block<B)->DataW.TrodAll enc P w' 0 sp held ts vs ds p
 |[],[],[],_,_,h,_=>h
 |t :: ts,v :: vs,d :: ds,_,hp,⟨p,q,⟨fuel,h1⟩,h2,e⟩,hx=>by
  subst e;simp only [List.all_cons,Bool.and_eq_true] at hp;exact ⟨p,q,⟨fuel,trod_keep hb n t fuel _ _ hp.1 h1 fun r hr=>hx r (List.mem_append_left _ hr)⟩,all_keep hb n ts vs ds q hp.2 h2 fun r hr=>hx r (List.mem_append_right _ hr),rfl⟩
theorem post_true {f:Func} {s:ChangeSpec} {apart fresh handsOn again:Bool} {W W':World} {args:Array Value} {ds gs:List (DataW H)} {before:List MemPlace} {tb:TypeId}
  (hW:DataW.Whole enc P f.params.toList s.vars apart W args.toList ds gs before) (hs:s.vars=[]) (n:Nat) (hp:f.params.toList.all (plainT P n)=true)
  (hfn:(s.fn H (ds++gs))={ results:=[.lit (.bool true)],args:=ds }) (hr:f.resultTypes=#[tb]) (ht:P.underlying tb=some .bool) (hb:Below W.heap.size W W') (hk:Value.okWide P W' .any 0 tb (.bool true)):
  s.post enc P f apart fresh handsOn again W args (.bool true) W':=by
 have hlt:=fun p hp=>hW.lt p hp;obtain ⟨p,q,hA,hV,he,hfz,hnd⟩:=hW;rw [hs] at hV
 have hV2:q=[]/\gs=[]:=by
  cases gs with
  |nil=>exact ⟨hV,rfl⟩
  |cons a b=>exact absurd hV (by simp [DataW.TrodVars])
 obtain ⟨rfl,rfl⟩:=hV2
 have he2:before=p:=by simpa using he
 refine Post.post_of_below (pa:=p) (pv:=[]) ⟨p,[],hA,by rw [hs];exact hV,he,hfz,hnd⟩ (fun b sp hd=>?_) (fun sp hsp=>?_) (fun sp hsp=>?_) he hb ?_
 ·rw [hfn,hr]
  exact trodAll_cons_mk (shut_bool ht _) trodAll_mk0
 ·rw [hfn]
  exact all_keep hb n _ _ _ _ hp hA fun r hr=>⟨hsp r (by rw [he2];exact hr),hlt r (by rw [he2];exact hr)⟩
 ·rw [hfn,hs]
  exact rfl
 ·rw [hr]
  intro j t r h1 h2
  have hj:j=0:=by
   have:=(Array.getElem?_eq_some_iff.1 h1).1
   simpa using this
  subst hj
  have e1:tb=t:=by simpa using h1
  have e2:Value.bool true=r:=by simpa [Value.resultList] using h2
  subst e1;subst e2;exact hk
end
end Opn
namespace Opn
open Go.RowKit Go.WideShapes Go.ChangeShapes Mem Img
theorem in64_of {n:Int} (h:(Lit.int .i64 n).wf=true):In64 n:=by
 simp [Lit.wf,IntKind.min,IntKind.max,IntKind.signed,IntKind.bits] at h;unfold In64;omega
theorem rule_of {r:List Value} {M:Nat} (h:fits [none,some (some .i64),some (some .i64),some (some .i64),some (some .i64),some (some .i64),some (some .i64),some (some .i64),some (some .i64),some (some .i64),none] r) (hM:letters r<=M) (hM2:M<=1048576):
  ∃ s:Rule,r=s.cells/\s.name.size<=2097152/\s.letter.size<=2097152:=by
 obtain ⟨_,_,rfl,⟨n,rfl⟩,_,_,rfl,⟨a1,rfl,w1⟩,_,_,rfl,⟨a2,rfl,w2⟩,_,_,rfl,⟨a3,rfl,w3⟩,_,_,rfl,⟨a4,rfl,w4⟩,_,_,rfl,⟨a5,rfl,w5⟩,h⟩:=h;obtain ⟨_,_,rfl,⟨a6,rfl,w6⟩,_,_,rfl,⟨a7,rfl,w7⟩,_,_,rfl,⟨a8,rfl,w8⟩,_,_,rfl,⟨a9,rfl,w9⟩,_,_,rfl,⟨s,rfl⟩,h⟩:=h;simp only [fits] at h;subst h;simp only [letters] at hM
 exact ⟨⟨n,a1,a2,a3,a4,a5,a6,a7,a8,a9,s⟩,rfl,by show n.size<=_;omega,by show s.size<=_;omega⟩
theorem cells_int:prog.cellsOf 3=1:=by kernel_rfl
theorem cells_string:prog.cellsOf 9=1:=by kernel_rfl
end Opn
end
end Go.Proofs.YtiiekaehbahenaaGreatDoor
