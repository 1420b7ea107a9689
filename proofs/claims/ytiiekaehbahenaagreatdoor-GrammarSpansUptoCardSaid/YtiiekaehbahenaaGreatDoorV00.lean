/-
  Contracts of the code that the law reaches, and plain laws. Conditions: as each says.
-/
import Derived.WalkKit
import Derived.Below
import Derived.Laws.OwnMore
import Derived.Deep.AppendLies
import Derived.Deep.Draws
import Derived.Laws.Rows
import Derived.Maps.AppendAt
import Derived.RegionTactic
import Derived.OwnWalk
import Derived.WalkSpells
import Derived.Deep.RegionLaw
import Derived.Lib.OthersKept
import Derived.Lib.AppendStr
import Derived.ChangeSame
set_option linter.all false
set_option maxHeartbeats 40000000
set_option maxRecDepth 100000
namespace Go.Proofs.YtiiekaehbahenaaGreatDoor
section
namespace Mem
open Go.RowKit
theorem block_of_add (a:Addr) (n:Nat):(a.add n).block=a.block:=by unfold Addr.add;split<;>rfl
theorem add_of_add (a:Addr) (i j:Nat):(a.add i).add j=a.add (i+j):=by
 unfold Addr.add
 by_cases hi:i=0<;>by_cases hj:j=0<;>simp [hi,hj,Nat.add_assoc]
def Reads (w:World) (B size:Nat) (A:Option Addr) (n:Nat) (xs:List Value):Prop:=
 xs.length=n*size/\(0<n->∃ ad,A=some ad/\ad.block<B/\∀ j u,xs[j]?=some u->w.cell? (ad.add j)=some u)
section
variable {w w':World} {B B' size n:Nat} {A:Option Addr} {xs:List Value}
theorem Reads.none_:Reads w B size A 0 []:=⟨by simp,fun h=>absurd h (by omega)⟩
theorem Reads.at_ {k:Nat} (h:Reads w B 1 A n xs) (hk:k<n):∃ ad u,A=some ad/\ad.block<B/\xs[k]?=some u/\w.cell? (ad.add k)=some u:=by
 obtain ⟨ad,e,hb,hc⟩:=h.2 (by omega)
 have hl:k<xs.length:=by have:=h.1;omega
 exact ⟨ad,xs[k],e,hb,List.getElem?_eq_getElem hl,hc k _ (List.getElem?_eq_getElem hl)⟩
theorem Reads.keep (h:Reads w B size A n xs) (hk:∀ p:Addr,p.block<B->w'.cell? p=w.cell? p):Reads w' B size A n xs:=
 ⟨h.1,fun hn=>by
  obtain ⟨ad,e,hb,hc⟩:=h.2 hn
  exact ⟨ad,e,hb,fun j u hu=>(hk _ (by rw [block_of_add];exact hb)).trans (hc j u hu)⟩⟩
theorem Reads.more (h:Reads w B size A n xs) (hB:B<=B'):Reads w B' size A n xs:=
 ⟨h.1,fun hn=>by
  obtain ⟨ad,e,hb,hc⟩:=h.2 hn
  exact ⟨ad,e,by omega,hc⟩⟩
theorem Reads.below (h:Reads w B size A n xs) (hb:Below B w w'):Reads w' B size A n xs:=h.keep fun _ hp=>hb.cell hp
theorem Reads.drew (h:Reads w B size A n xs):Reads w.drew B size A n xs:=h
theorem Reads.drewN (h:Reads w B size A n xs) (k:Nat):Reads (w.drewN k) B size A n xs:=h
theorem Reads.alloc (h:Reads w B size A n xs) (hB:B<=w.heap.size) (o:Obj):Reads (w.alloc o) B size A n xs:=h.keep fun p hp=>World.cell?_alloc_lt w o p (by omega)
theorem Reads.setCell (h:Reads w B size A n xs) {p:Addr} (hB:B<=p.block) (u:Value):Reads (w.setCell p u) B size A n xs:=
 h.keep fun q hq=>World.cell?_setCell_other w p q u (fun e=>by subst e;omega)
theorem Reads.grown (h:Reads w B size A n xs) {row:Option Nat} (hg:w.grownBy w' row) (hB:B<=w.heap.size) (hr:∀ g,row=some g->B<=g):Reads w' B size A n xs:=
 h.keep fun p hp=>World.cell?_of_block (hg.block p.block (by omega) (fun e=>by have:=hr _ e.symm;omega))
theorem Reads.cut (h:Reads w B size A n xs) {k cap:Nat} (hk:k<=n) (hc:n<=cap):
  Reads w B size (if cap=k then A else A.map (·.add (k*size))) (n - k) (xs.drop (k*size)):=by
 refine ⟨by rw [List.length_drop,h.1,Nat.sub_mul],fun hn=>?_⟩
 obtain ⟨ad,rfl,hb,hcell⟩:=h.2 (by omega)
 rw [if_neg (by omega)]
 refine ⟨ad.add (k*size),rfl,by rw [block_of_add];exact hb,fun j u hu=>?_⟩
 rw [add_of_add]
 exact hcell _ u (by rw [<-hu,List.getElem?_drop])
theorem Reads.of_own {base:Nat} {e:TypeId} {c:Nat} (h:w.ownsRow base e size (.slice A n c) n xs):Reads w w.heap.size size A n xs:=by
 refine ⟨h.1,fun hn=>?_⟩
 obtain ⟨g,cap,hv,_,hlt⟩:=h.form hn
 have hA:A=some ⟨g,0,none⟩:=by injection hv
 subst hA;exact ⟨_,rfl,hlt,h.cells (g:=g) rfl⟩
end
def Blk (w:World) (g:Nat) (t:TypeId) (cs:Array Value):Prop:=w.heap[g]?=some (.cells cs t (0,0))
section
variable {w w':World} {g:Nat} {t:TypeId} {cs:Array Value}
theorem Blk.lt (h:Blk w g t cs):g<w.heap.size:=by
 rcases Nat.lt_or_ge g w.heap.size with hlt|hge
 ·exact hlt
 ·unfold Blk at h;rw [Array.getElem?_eq_none hge] at h;cases h
theorem Blk.cell (h:Blk w g t cs) (i:Nat):w.cell? ⟨g,i,none⟩=cs[i]?:=cell_of_row w g i cs t (0,0) h
theorem Blk.frozen (h:Blk w g t cs) (i:Nat):w.frozen? ⟨g,i,none⟩=false:=by
 unfold Blk at h;simp [World.frozen?,h]
theorem Blk.new (w:World) (t:TypeId) (cs:Array Value):Blk (w.alloc (.cells cs t)) w.heap.size t cs:=heap_alloc_new w _
theorem Blk.drew (h:Blk w g t cs):Blk w.drew g t cs:=h
theorem Blk.drewN (h:Blk w g t cs) (n:Nat):Blk (w.drewN n) g t cs:=h
theorem Blk.alloc (h:Blk w g t cs) (o:Obj):Blk (w.alloc o) g t cs:=(Below.heap_alloc w o g h.lt).trans h
theorem Blk.set_ (h:Blk w g t cs) (i:Nat) (u:Value):Blk (w.setCell ⟨g,i,none⟩ u) g t (cs.setIfInBounds i u):=by
 unfold Blk at h ⊢
 simp [World.setCell,Array.getElem?_modify,h]
theorem Blk.far (h:Blk w g t cs) {p:Addr} (hp:g≠p.block) (u:Value):Blk (w.setCell p u) g t cs:=(Below.heap_setCell w p u g hp).trans h
theorem Blk.below {B:Nat} (h:Blk w g t cs) (hb:Below B w w') (hg:g<B):Blk w' g t cs:=(hb.block g hg).trans h
theorem Blk.grown {row:Option Nat} (h:Blk w g t cs) (hb:w.grownBy w' row) (hg:some g≠row):Blk w' g t cs:=(hb.block g h.lt hg).trans h
theorem Blk.ne_ {g':Nat} {t':TypeId} {cs':Array Value} (h:Blk w g t cs) (h':Blk w g' t' cs') (hne:t≠t'):g≠g':=by
 rintro rfl;unfold Blk at h h';rw [h] at h'
 injection h' with h'
 injection h' with _ ht
 exact hne ht
theorem own_blk_ne {base:Nat} {e:TypeId} {size n:Nat} {v:Value} {xs:List Value} (h:w.ownsRow base e size v n xs) (hg:Blk w g t cs) (hne:e≠t):v.ownBlock≠some g:=by
 rcases h.2 with ⟨rfl,_⟩|⟨g',cap,cur,rfl,_,hh,_⟩
 ·simp [Value.ownBlock]
 ·intro he
  have:g'=g:=by simpa [Value.ownBlock] using he
  subst this;exact Blk.ne_ (t:=e) hh hg hne rfl
end
section
variable {P:Program} (w:World)
theorem run_append_of_nil (base:Nat) (t ty e:TypeId) (i:TypeInfo) (size:Nat) (ht:P.underlying t=some (.slice e)) (hi:P.info? e=some i)
  (v:Value) (n:Nat) (xs:List Value) (hown:w.ownsRow base e size v n xs) (c:Nat):(Builtin.append_ #[t,t] ty #[v,.slice none 0 c]).run P w= .ok v w:=by
 rcases hown.2 with ⟨rfl,rfl⟩|⟨g,cap,cur,rfl,_,_,hnc,_⟩
 ·simp [Builtin.append_,run_underlying ht,sizeOf,typeInfo,hi,Builtin.lenOf,Builtin.firstCells]
 ·simp [Builtin.append_,run_underlying ht,sizeOf,typeInfo,hi,Builtin.lenOf,Builtin.firstCells,hnc,storeCells]
theorem run_append_any (base:Nat) (t ty e:TypeId) (i:TypeInfo) (z:Value) (size bytes:Nat) (ht:P.underlying t=some (.slice e)) (hi:P.info? e=some i) (hz:i.zero=some z)
  (hsize:i.size=size) (hby:i.bytes=bytes) (hzs:z.cells.size=size) (hsz:0<size)
  (v:Value) (n:Nat) (xs:List Value) (hown:w.ownsRow base e size v n xs)
  (B:Nat) (A:Option Addr) (m c:Nat) (news:List Value) (hr:Reads w B size A m news) (h1:∀ u∈news,u.oneCell'=true)
  (h63:n+m<=maxLen) (hbytes:(n+m)*bytes<=140737488355328) (hbase:base<=w.heap.size):
  ∃ v' w',(Builtin.append_ #[t,t] ty #[v,.slice A m c]).run P w= .ok v' w'/\w'.ownsRow base e size v' (n+m) (xs++news)/\w.grownBy w' v.ownBlock/\
   (v'.ownBlock=v.ownBlock\/v'.ownBlock=some w.heap.size):=by
 rcases A with _|ad
 ·have hm:m=0:=by
   rcases Nat.eq_zero_or_pos m with h0|h0
   ·exact h0
   ·obtain ⟨ad,h,_⟩:=hr.2 h0
    cases h
  subst hm
  have hn:news=[]:=List.eq_nil_of_length_eq_zero (by simpa using hr.1)
  subst hn
  exact ⟨v,w,run_append_of_nil w base t ty e i size ht hi v n xs hown c,by simpa using hown,World.grownBy.refl w _,.inl rfl⟩
 ·have hcells:∀ j u,news[j]?=some u->w.cell? (ad.add j)=some u:=by
   intro j u hu
   rcases Nat.eq_zero_or_pos m with h0|h0
   ·subst h0
    have hn:news=[]:=List.eq_nil_of_length_eq_zero (by simpa using hr.1)
    subst hn;simp at hu
   ·obtain ⟨ad',h,_,hc⟩:=hr.2 h0
    injection h with h
    subst h;exact hc j u hu
  obtain ⟨v',w',hrun,h2,h3,_,h5⟩:=run_append_own_at (P:=P) w base t ty e i z size bytes ht hi hz hsize hby hzs hsz v n xs hown ad m c news hr.1 hcells h1 h63 hbytes hbase;exact ⟨v',w',hrun,h2,h3,h5⟩
theorem wp_append_any {o:Oper} {a:Act} {K:Act->World->Prop} {Q:Exit->Act->World->Prop} (s x:Operand) (t:TypeId)
  (ho:o.op= .call { callee:= .builtin .append,args:=#[s,x],argTypes:=#[t,t] })
  (base:Nat) (e:TypeId) (i:TypeInfo) (z:Value) (size bytes:Nat) (ht:P.underlying t=some (.slice e)) (hi:P.info? e=some i) (hz:i.zero=some z)
  (hsize:i.size=size) (hby:i.bytes=bytes) (hzs:z.cells.size=size) (hsz:0<size)
  (v:Value) (n:Nat) (xs:List Value) (hs:a.eval s=v) (hown:w.ownsRow base e size v n xs)
  (B:Nat) (A:Option Addr) (m c:Nat) (news:List Value) (hx:a.eval x= .slice A m c) (hr:Reads w B size A m news) (h1:∀ u∈news,u.oneCell'=true)
  (h63:n+m<=maxLen) (hbytes:(n+m)*bytes<=140737488355328) (hbase:base<=w.heap.size)
  (h:∀ v' w',w'.ownsRow base e size v' (n+m) (xs++news)->w.grownBy w' v.ownBlock->(v'.ownBlock=v.ownBlock\/v'.ownBlock=some w.heap.size)->K (a.put o.dst v') w'):o.wp P a w K Q:=by
 obtain ⟨v',w',hrun,h2,h3,h4⟩:=run_append_any (P:=P) w base t o.type e i z size bytes ht hi hz hsize hby hzs hsz v n xs hown B A m c news hr h1 h63 hbytes hbase;unfold Oper.wp execOp;simp only [ho,resolve,invoke,builtin,Sem.run_bind,Sem.run_pure,Result.andThen_ok,List.map_toArray,List.map_cons,List.map_nil,hs,hx,hrun];exact h v' w' h2 h3 h4
theorem wpList_append_any {ops:Array Oper} {rest:List Oper} {o:Oper} {a:Act} {Q:Exit->Act->World->Prop} (hgd:o.guard=none) (s x:Operand) (t:TypeId)
  (ho:o.op= .call { callee:= .builtin .append,args:=#[s,x],argTypes:=#[t,t] })
  (base:Nat) (e:TypeId) (i:TypeInfo) (z:Value) (size bytes:Nat) (ht:P.underlying t=some (.slice e)) (hi:P.info? e=some i) (hz:i.zero=some z)
  (hsize:i.size=size) (hby:i.bytes=bytes) (hzs:z.cells.size=size) (hsz:0<size)
  (v:Value) (n:Nat) (xs:List Value) (hs:a.eval s=v) (hown:w.ownsRow base e size v n xs)
  (B:Nat) (A:Option Addr) (m c:Nat) (news:List Value) (hx:a.eval x= .slice A m c) (hr:Reads w B size A m news) (h1:∀ u∈news,u.oneCell'=true)
  (h63:n+m<=maxLen) (hbytes:(n+m)*bytes<=140737488355328) (hbase:base<=w.heap.size)
  (h:∀ v' w',w'.ownsRow base e size v' (n+m) (xs++news)->w.grownBy w' v.ownBlock->(v'.ownBlock=v.ownBlock\/v'.ownBlock=some w.heap.size)->wpList P ops Q rest (a.put o.dst v') w'):wpList P ops Q (o :: rest) a w:=
 wpList_plain hgd fun _ hK=>wp_append_any w s x t ho base e i z size bytes ht hi hz hsize hby hzs hsz v n xs hs hown B A m c news hx hr h1 h63 hbytes hbase fun v' w' h2 h3 h4=>hK _ _ (h v' w' h2 h3 h4)
theorem step_append_any {ops:Array Oper} {o:Oper} {a:Act} {K:Act->World->Prop} {Q:Exit->Act->World->Prop} {E:Prop} (hgd:o.guard=none) (s x:Operand) (t:TypeId)
  (ho:o.op= .call { callee:= .builtin .append,args:=#[s,x],argTypes:=#[t,t] })
  (base:Nat) (e:TypeId) (i:TypeInfo) (z:Value) (size bytes:Nat) (ht:P.underlying t=some (.slice e)) (hi:P.info? e=some i) (hz:i.zero=some z)
  (hsize:i.size=size) (hby:i.bytes=bytes) (hzs:z.cells.size=size) (hsz:0<size)
  (v:Value) (n:Nat) (xs:List Value) (hs:a.eval s=v) (hown:w.ownsRow base e size v n xs)
  (B:Nat) (A:Option Addr) (m c:Nat) (news:List Value) (hx:a.eval x= .slice A m c) (hr:Reads w B size A m news) (h1:∀ u∈news,u.oneCell'=true)
  (h63:n+m<=maxLen) (hbytes:(n+m)*bytes<=140737488355328) (hbase:base<=w.heap.size)
  (h:∀ v' w',w'.ownsRow base e size v' (n+m) (xs++news)->w.grownBy w' v.ownBlock->(v'.ownBlock=v.ownBlock\/v'.ownBlock=some w.heap.size)->K (a.put o.dst v') w'):
  if Region.wanted o (yielded ops a.tmps)=true then Oper.wp P o a w K Q else E:=by
 have hw:Region.wanted o (yielded ops a.tmps)=true:=by simp [Region.wanted,hgd]
 rw [if_pos hw];exact wp_append_any w s x t ho base e i z size bytes ht hi hz hsize hby hzs hsz v n xs hs hown B A m c news hx hr h1 h63 hbytes hbase h
end
section
variable {P:Program} (w:World)
theorem wpList_append1 {ops:Array Oper} {rest:List Oper} {o:Oper} {a:Act} {Q:Exit->Act->World->Prop} {cs:Array Value} (hgd:o.guard=none) (s x:Operand) (t:TypeId)
  (ho:o.op= .call { callee:= .builtin .append,args:=#[s,x],argTypes:=#[t,t] })
  (base:Nat) (e:TypeId) (i:TypeInfo) (z:Value) (size bytes:Nat) (ht:P.underlying t=some (.slice e)) (hi:P.info? e=some i) (hz:i.zero=some z)
  (hsize:i.size=size) (hby:i.bytes=bytes) (hzs:z.cells.size=size) (hsz:0<size)
  (v:Value) (n:Nat) (xs:List Value) (hs:a.eval s=v) (hown:w.ownsRow base e size v n xs)
  (hx:a.eval x= .slice (some ⟨w.heap.size,0,none⟩) 1 1) (hcs:cs.size=size) (h1:∀ u∈cs.toList,u.oneCell'=true)
  (h63:n+1<=maxLen) (hbytes:(n+1)*bytes<=140737488355328) (hbase:base<=w.heap.size)
  (h:∀ v' w',w'.ownsRow base e size v' (n+1) (xs++cs.toList)->Below base w w'->wpList P ops Q rest (a.put o.dst v') w'):wpList P ops Q (o :: rest) a (w.alloc (.cells cs e)):=by
 refine wpList_append_own (w.alloc (.cells cs e)) hgd s x t ho base e i z size bytes ht hi hz hsize hby hzs hsz v n xs hs (hown.alloc _) ⟨w.heap.size,0,none⟩ 1 1 cs.toList hx (by simp [hcs]) ?_ h1 h63 hbytes (by simp;omega) ?_
 ·intro j u hu
  have e1:(⟨w.heap.size,0,none⟩:Addr).add j=⟨w.heap.size,j,none⟩:=by unfold Addr.add;split<;>simp_all
  rw [e1,(Blk.new w e cs).cell j]
  simpa using hu
 ·intro v' w' h2 h3 _
  exact h v' w' h2 (((Below.refl _ _).alloc hbase _).grown h3 (by simp;omega) fun k hk=>(hown.lt k hk).1)
end
theorem one_of_int {k:IntKind} {n:Int}:∀ u∈(#[Value.int k n]:Array Value).toList,u.oneCell'=true:=by intro u hu;simp at hu;subst hu;rfl
theorem box1 (w:World) (t:TypeId) (c:Array Value):Blk (w.alloc (.cells c t)) w.heap.size t c/\Below w.heap.size w (w.alloc (.cells c t))/\w.heap.size<(w.alloc (.cells c t)).heap.size:=
 ⟨Blk.new w t c,(Below.refl _ _).alloc (Nat.le_refl _) _,by simp⟩
theorem box2 (w:World) (t u:TypeId) (c d:Array Value):Blk ((w.alloc (.cells c t)).alloc (.cells d u)) w.heap.size t c/\Blk ((w.alloc (.cells c t)).alloc (.cells d u)) (w.heap.size+1) u d/\
  Below w.heap.size w ((w.alloc (.cells c t)).alloc (.cells d u))/\w.heap.size+1<((w.alloc (.cells c t)).alloc (.cells d u)).heap.size:=by
 refine ⟨(Blk.new w t c).alloc _,?_,((Below.refl _ _).alloc (Nat.le_refl _) _).alloc (by simp) _,by simp⟩
 have h:=Blk.new (w.alloc (.cells c t)) u d
 simpa using h
theorem box3 (w:World) (t u v:TypeId) (c d x:Array Value):Blk (((w.alloc (.cells c t)).alloc (.cells d u)).alloc (.cells x v)) w.heap.size t c/\Blk (((w.alloc (.cells c t)).alloc (.cells d u)).alloc (.cells x v)) (w.heap.size+1) u d/\
  Blk (((w.alloc (.cells c t)).alloc (.cells d u)).alloc (.cells x v)) (w.heap.size+1+1) v x/\Below w.heap.size w (((w.alloc (.cells c t)).alloc (.cells d u)).alloc (.cells x v))/\w.heap.size+1+1<(((w.alloc (.cells c t)).alloc (.cells d u)).alloc (.cells x v)).heap.size:=by
 obtain ⟨h1,h2,h3,h4⟩:=box2 w t u c d
 refine ⟨h1.alloc _,h2.alloc _,?_,h3.alloc (by simp;omega) _,by simp⟩
 have h:=Blk.new ((w.alloc (.cells c t)).alloc (.cells d u)) v x
 simpa using h
theorem keep2 {W W':World} {p0 p1:Addr} {v0 v1:Value} (h:W.cell? p0=some v0/\W.cell? p1=some v1) (hb:Below W.heap.size W W'):W'.cell? p0=some v0/\W'.cell? p1=some v1:=
 ⟨cell_later hb h.1,cell_later hb h.2⟩
theorem keep4 {W W':World} {p0 p1 p2 p3:Addr} {v0 v1 v2 v3:Value} (h:W.cell? p0=some v0/\W.cell? p1=some v1/\W.cell? p2=some v2/\W.cell? p3=some v3) (hb:Below W.heap.size W W'):
  W'.cell? p0=some v0/\W'.cell? p1=some v1/\W'.cell? p2=some v2/\W'.cell? p3=some v3:=⟨cell_later hb h.1,cell_later hb h.2.1,cell_later hb h.2.2.1,cell_later hb h.2.2.2⟩
theorem cell_set2 {W:World} {p:Addr} {v:Value} {b:Nat} (h:W.cell? p=some v) (h0:p.block≠b) (x y:Value):((W.setCell ⟨b,0,none⟩ x).setCell ⟨b,1,none⟩ y).cell? p=some v:=by
 rw [World.cell?_setCell_other _ _ _ _ (by rintro rfl;exact h0 rfl),World.cell?_setCell_other _ _ _ _ (by rintro rfl;exact h0 rfl),h]
theorem keep2_set {W:World} {p0 p1:Addr} {v0 v1:Value} {b:Nat} (h:W.cell? p0=some v0/\W.cell? p1=some v1) (h0:p0.block≠b) (h1:p1.block≠b) (x y:Value):
  ((W.setCell ⟨b,0,none⟩ x).setCell ⟨b,1,none⟩ y).cell? p0=some v0/\((W.setCell ⟨b,0,none⟩ x).setCell ⟨b,1,none⟩ y).cell? p1=some v1:=⟨cell_set2 h.1 h0 x y,cell_set2 h.2 h1 x y⟩
theorem keep4_set {W:World} {p0 p1 p2 p3:Addr} {v0 v1 v2 v3:Value} {b:Nat} (h:W.cell? p0=some v0/\W.cell? p1=some v1/\W.cell? p2=some v2/\W.cell? p3=some v3)
  (h0:p0.block≠b) (h1:p1.block≠b) (h2:p2.block≠b) (h3:p3.block≠b) (x y:Value):
  ((W.setCell ⟨b,0,none⟩ x).setCell ⟨b,1,none⟩ y).cell? p0=some v0/\((W.setCell ⟨b,0,none⟩ x).setCell ⟨b,1,none⟩ y).cell? p1=some v1/\
  ((W.setCell ⟨b,0,none⟩ x).setCell ⟨b,1,none⟩ y).cell? p2=some v2/\((W.setCell ⟨b,0,none⟩ x).setCell ⟨b,1,none⟩ y).cell? p3=some v3:=
 ⟨cell_set2 h.1 h0 x y,cell_set2 h.2.1 h1 x y,cell_set2 h.2.2.1 h2 x y,cell_set2 h.2.2.2 h3 x y⟩
theorem same_of {B:Nat} {W W':World} (h:Below B W W'):(∀ b o,b<B->W'.cell? ⟨b,o,none⟩=W.cell? ⟨b,o,none⟩)/\Below B W W':=⟨fun b o hb=>h.cell (p:=⟨b,o,none⟩) hb,h⟩
theorem same_trans {B:Nat} {W W' W'':World} (h:(∀ b o,b<B->W'.cell? ⟨b,o,none⟩=W.cell? ⟨b,o,none⟩)/\Below B W W') (hB:B<=W.heap.size) (hb:Below W'.heap.size W' W''):Below B W W'':=
 h.2.trans (hb.mono (Nat.le_trans hB h.2.size))
theorem same_alloc {B:Nat} {W W':World} (h:(∀ b o,b<B->W'.cell? ⟨b,o,none⟩=W.cell? ⟨b,o,none⟩)/\Below B W W') (hB:B<=W.heap.size) (x:Obj):
  (∀ b o,b<B->(W'.alloc x).cell? ⟨b,o,none⟩=W.cell? ⟨b,o,none⟩)/\Below B W (W'.alloc x):=same_of (h.2.alloc (Nat.le_trans hB h.2.size) x)
theorem same_set {B:Nat} {W W':World} (h:(∀ b o,b<B->W'.cell? ⟨b,o,none⟩=W.cell? ⟨b,o,none⟩)/\Below B W W') {b:Nat} (hb:B<=b) (x y:Value):
  (∀ c o,c<B->((W'.setCell ⟨b,0,none⟩ x).setCell ⟨b,1,none⟩ y).cell? ⟨c,o,none⟩=W.cell? ⟨c,o,none⟩)/\Below B W ((W'.setCell ⟨b,0,none⟩ x).setCell ⟨b,1,none⟩ y):=
 same_of ((h.2.setCell hb x).setCell hb y)
theorem below_drew (W:World):Below W.heap.size W W.drew:=(Below.refl _ _).drew
end Mem
namespace Mem
open Go.RowKit
section
variable {P:Program} (w:World)
theorem wp_append1 {o:Oper} {a:Act} {K:Act->World->Prop} {Q:Exit->Act->World->Prop} {cs:Array Value} (s x:Operand) (t:TypeId)
  (ho:o.op= .call { callee:= .builtin .append,args:=#[s,x],argTypes:=#[t,t] })
  (base:Nat) (e:TypeId) (i:TypeInfo) (z:Value) (size bytes:Nat) (ht:P.underlying t=some (.slice e)) (hi:P.info? e=some i) (hz:i.zero=some z)
  (hsize:i.size=size) (hby:i.bytes=bytes) (hzs:z.cells.size=size) (hsz:0<size)
  (v:Value) (n:Nat) (xs:List Value) (hs:a.eval s=v) (hown:w.ownsRow base e size v n xs)
  (hx:a.eval x= .slice (some ⟨w.heap.size,0,none⟩) 1 1) (hcs:cs.size=size) (h1:∀ u∈cs.toList,u.oneCell'=true)
  (h63:n+1<=maxLen) (hbytes:(n+1)*bytes<=140737488355328) (hbase:base<=w.heap.size)
  (h:∀ v' w',w'.ownsRow base e size v' (n+1) (xs++cs.toList)->(w.alloc (.cells cs e)).grownBy w' v.ownBlock->K (a.put o.dst v') w'):Oper.wp P o a (w.alloc (.cells cs e)) K Q:=by
 refine wp_append_own (w.alloc (.cells cs e)) s x t ho base e i z size bytes ht hi hz hsize hby hzs hsz v n xs hs (hown.alloc _) ⟨w.heap.size,0,none⟩ 1 1 cs.toList hx (by simp [hcs]) ?_ h1 h63 hbytes (by simp;omega) ?_
 ·intro j u hu
  have e1:(⟨w.heap.size,0,none⟩:Addr).add j=⟨w.heap.size,j,none⟩:=by unfold Addr.add;split<;>simp_all
  rw [e1,(Blk.new w e cs).cell j]
  simpa using hu
 ·intro v' w' h2 h3 _
  exact h v' w' h2 h3
theorem step_append1 {ops:Array Oper} {o:Oper} {a:Act} {K:Act->World->Prop} {Q:Exit->Act->World->Prop} {E:Prop} {cs:Array Value} (hgd:o.guard=none) (s x:Operand) (t:TypeId)
  (ho:o.op= .call { callee:= .builtin .append,args:=#[s,x],argTypes:=#[t,t] })
  (base:Nat) (e:TypeId) (i:TypeInfo) (z:Value) (size bytes:Nat) (ht:P.underlying t=some (.slice e)) (hi:P.info? e=some i) (hz:i.zero=some z)
  (hsize:i.size=size) (hby:i.bytes=bytes) (hzs:z.cells.size=size) (hsz:0<size)
  (v:Value) (n:Nat) (xs:List Value) (hs:a.eval s=v) (hown:w.ownsRow base e size v n xs)
  (hx:a.eval x= .slice (some ⟨w.heap.size,0,none⟩) 1 1) (hcs:cs.size=size) (h1:∀ u∈cs.toList,u.oneCell'=true)
  (h63:n+1<=maxLen) (hbytes:(n+1)*bytes<=140737488355328) (hbase:base<=w.heap.size)
  (h:∀ v' w',w'.ownsRow base e size v' (n+1) (xs++cs.toList)->(w.alloc (.cells cs e)).grownBy w' v.ownBlock->K (a.put o.dst v') w'):
  if Region.wanted o (yielded ops a.tmps)=true then Oper.wp P o a (w.alloc (.cells cs e)) K Q else E:=by
 have hw:Region.wanted o (yielded ops a.tmps)=true:=by simp [Region.wanted,hgd]
 rw [if_pos hw];exact wp_append1 w s x t ho base e i z size bytes ht hi hz hsize hby hzs hsz v n xs hs hown hx hcs h1 h63 hbytes hbase h
theorem wpList_append1g {ops:Array Oper} {rest:List Oper} {o:Oper} {a:Act} {Q:Exit->Act->World->Prop} {cs:Array Value} (hgd:o.guard=none) (s x:Operand) (t:TypeId)
  (ho:o.op= .call { callee:= .builtin .append,args:=#[s,x],argTypes:=#[t,t] })
  (base:Nat) (e:TypeId) (i:TypeInfo) (z:Value) (size bytes:Nat) (ht:P.underlying t=some (.slice e)) (hi:P.info? e=some i) (hz:i.zero=some z)
  (hsize:i.size=size) (hby:i.bytes=bytes) (hzs:z.cells.size=size) (hsz:0<size)
  (v:Value) (n:Nat) (xs:List Value) (hs:a.eval s=v) (hown:w.ownsRow base e size v n xs)
  (hx:a.eval x= .slice (some ⟨w.heap.size,0,none⟩) 1 1) (hcs:cs.size=size) (h1:∀ u∈cs.toList,u.oneCell'=true)
  (h63:n+1<=maxLen) (hbytes:(n+1)*bytes<=140737488355328) (hbase:base<=w.heap.size)
  (h:∀ v' w',w'.ownsRow base e size v' (n+1) (xs++cs.toList)->(w.alloc (.cells cs e)).grownBy w' v.ownBlock->wpList P ops Q rest (a.put o.dst v') w'):wpList P ops Q (o :: rest) a (w.alloc (.cells cs e)):=
 wpList_plain hgd fun _ hK=>wp_append1 w s x t ho base e i z size bytes ht hi hz hsize hby hzs hsz v n xs hs hown hx hcs h1 h63 hbytes hbase fun v' w' h2 h3=>hK _ _ (h v' w' h2 h3)
theorem step_append_string {ops:Array Oper} {o:Oper} {a:Act} {K:Act->World->Prop} {Q:Exit->Act->World->Prop} {E:Prop} (hgd:o.guard=none) (sl x:Operand) (t u:TypeId)
  (ho:o.op= .call { callee:= .builtin .append,args:=#[sl,x],argTypes:=#[t,u] })
  (base:Nat) (e:TypeId) (i:TypeInfo) (ht:P.underlying t=some (.slice e)) (hu:P.underlying u=some .string) (hi:P.info? e=some i) (hz:i.zero=some (.int .u8 0))
  (hsize:i.size=1) (hby:i.bytes=1)
  (v:Value) (n:Nat) (xs:List Value) (hs:a.eval sl=v) (hown:w.ownsRow base e 1 v n xs) (s:ByteArray) (hx:a.eval x= .string s)
  (h63:n+s.size<=maxLen) (hbytes:n+s.size<=140737488355328) (hbase:base<=w.heap.size)
  (h:∀ v' w',w'.ownsRow base e 1 v' (n+s.size) (xs++Lib.strCells s)->w.grownBy w' v.ownBlock->K (a.put o.dst v') w'):
  if Region.wanted o (yielded ops a.tmps)=true then Oper.wp P o a w K Q else E:=by
 have hw:Region.wanted o (yielded ops a.tmps)=true:=by simp [Region.wanted,hgd]
 rw [if_pos hw];obtain ⟨v',w',hrun,h2,h3,h4⟩:=Lib.run_append_own_string (P:=P) w base t u o.type e i ht hu hi hz hsize hby v n xs hown s h63 hbytes hbase;unfold Oper.wp execOp;simp only [ho,resolve,invoke,builtin,Sem.run_bind,Sem.run_pure,Result.andThen_ok,List.map_toArray,List.map_cons,List.map_nil,hs,hx,hrun];exact h v' w' h2 h3
end
end Mem
namespace Mem
open Go.RowKit
section
variable {P:Program} (w:World)
theorem run_append_full (t ty e:TypeId) (i:TypeInfo) (z:Value) (size bytes:Nat) (ht:P.underlying t=some (.slice e)) (hi:P.info? e=some i) (hz:i.zero=some z)
  (hsize:i.size=size) (hby:i.bytes=bytes)
  (ad:Addr) (n:Nat) (xs:List Value) (hl:xs.length=n*size) (hc:∀ j u,xs[j]?=some u->w.cell? (ad.add j)=some u) (hB:ad.block<w.heap.size)
  (B:Nat) (A:Option Addr) (m c:Nat) (news:List Value) (hr:Reads w B size A m news)
  (h63:n+m<=maxLen) (hbytes:(n+m)*bytes<=140737488355328):
  ∃ A' c' w',(Builtin.append_ #[t,t] ty #[.slice (some ad) n n,.slice A m c]).run P w= .ok (.slice A' (n+m) c') w'/\Reads w' w'.heap.size size A' (n+m) (xs++news)/\Below w.heap.size w w':=by
 subst hsize;subst hby
 rcases Nat.eq_zero_or_pos m with rfl|hm
 ·have hn:news=[]:=List.eq_nil_of_length_eq_zero (by simpa using hr.1)
  subst hn
  refine ⟨some ad,n,w,?_,⟨by simpa using hl,fun _=>⟨ad,rfl,hB,by simpa using hc⟩⟩,Below.refl _ _⟩
  rcases A with _|a
  ·simp [Builtin.append_,run_underlying ht,sizeOf,typeInfo,hi,Builtin.lenOf,Builtin.firstCells,storeCells]
  ·simp [Builtin.append_,run_underlying ht,sizeOf,typeInfo,hi,Builtin.lenOf,Builtin.firstCells,storeCells,loadCells,loadCellsFrom]
 ·obtain ⟨a,rfl,_,hnews⟩:=hr.2 hm
  have hsmall:n+m<=9223372036854775807:=by simp only [maxLen] at h63;omega
  have hrun:=run_append_grow (P:=P) w t ty e i z ht hi hz ad n n xs hl hc a m c news hr.1 hnews (by omega) (by omega) (growslice_fits (by omega) hbytes)
  refine ⟨_,_,_,hrun,⟨by rw [List.length_append,hl,hr.1,Nat.add_mul],fun _=>⟨_,rfl,by simp,fun j u hu=>?_⟩⟩,?_⟩
  ·have e1:(⟨w.heap.size,0,none⟩:Addr).add j=⟨w.heap.size,j,none⟩:=by unfold Addr.add;split<;>simp_all
   rw [e1];have hb:=Blk.new w.drew e (xs.toArray++news.toArray++Builtin.zeroCells z.cells (grownCap w (n+m) n e - (n+m)));rw [show w.drew.heap.size=w.heap.size from rfl] at hb;rw [hb.cell j]
   have hj:j<(xs++news).length:=(List.getElem?_eq_some_iff.1 hu).1
   rw [Array.getElem?_append_left (by simpa using hj),<-hu]
   simp
  ·exact ((Below.refl _ _).drew).alloc (Nat.le_refl _) _
theorem wp_append_full {o:Oper} {a:Act} {K:Act->World->Prop} {Q:Exit->Act->World->Prop} (s x:Operand) (t:TypeId)
  (ho:o.op= .call { callee:= .builtin .append,args:=#[s,x],argTypes:=#[t,t] })
  (e:TypeId) (i:TypeInfo) (z:Value) (size bytes:Nat) (ht:P.underlying t=some (.slice e)) (hi:P.info? e=some i) (hz:i.zero=some z)
  (hsize:i.size=size) (hby:i.bytes=bytes)
  (ad:Addr) (n:Nat) (xs:List Value) (hs:a.eval s= .slice (some ad) n n) (hl:xs.length=n*size) (hc:∀ j u,xs[j]?=some u->w.cell? (ad.add j)=some u) (hB:ad.block<w.heap.size)
  (B:Nat) (A:Option Addr) (m c:Nat) (news:List Value) (hx:a.eval x= .slice A m c) (hr:Reads w B size A m news)
  (h63:n+m<=maxLen) (hbytes:(n+m)*bytes<=140737488355328)
  (h:∀ A' c' w',Reads w' w'.heap.size size A' (n+m) (xs++news)->Below w.heap.size w w'->K (a.put o.dst (.slice A' (n+m) c')) w'):o.wp P a w K Q:=by
 obtain ⟨A',c',w',hrun,h2,h3⟩:=run_append_full (P:=P) w t o.type e i z size bytes ht hi hz hsize hby ad n xs hl hc hB B A m c news hr h63 hbytes;unfold Oper.wp execOp;simp only [ho,resolve,invoke,builtin,Sem.run_bind,Sem.run_pure,Result.andThen_ok,List.map_toArray,List.map_cons,List.map_nil,hs,hx,hrun];exact h A' c' w' h2 h3
theorem wpList_append_full {ops:Array Oper} {rest:List Oper} {o:Oper} {a:Act} {Q:Exit->Act->World->Prop} (hgd:o.guard=none) (s x:Operand) (t:TypeId)
  (ho:o.op= .call { callee:= .builtin .append,args:=#[s,x],argTypes:=#[t,t] })
  (e:TypeId) (i:TypeInfo) (z:Value) (size bytes:Nat) (ht:P.underlying t=some (.slice e)) (hi:P.info? e=some i) (hz:i.zero=some z)
  (hsize:i.size=size) (hby:i.bytes=bytes)
  (ad:Addr) (n:Nat) (xs:List Value) (hs:a.eval s= .slice (some ad) n n) (hl:xs.length=n*size) (hc:∀ j u,xs[j]?=some u->w.cell? (ad.add j)=some u) (hB:ad.block<w.heap.size)
  (B:Nat) (A:Option Addr) (m c:Nat) (news:List Value) (hx:a.eval x= .slice A m c) (hr:Reads w B size A m news)
  (h63:n+m<=maxLen) (hbytes:(n+m)*bytes<=140737488355328)
  (h:∀ A' c' w',Reads w' w'.heap.size size A' (n+m) (xs++news)->Below w.heap.size w w'->wpList P ops Q rest (a.put o.dst (.slice A' (n+m) c')) w'):wpList P ops Q (o :: rest) a w:=
 wpList_plain hgd fun _ hK=>wp_append_full w s x t ho e i z size bytes ht hi hz hsize hby ad n xs hs hl hc hB B A m c news hx hr h63 hbytes fun A' c' w' h2 h3=>hK _ _ (h A' c' w' h2 h3)
theorem step_append_full {ops:Array Oper} {o:Oper} {a:Act} {K:Act->World->Prop} {Q:Exit->Act->World->Prop} {E:Prop} (hgd:o.guard=none) (s x:Operand) (t:TypeId)
  (ho:o.op= .call { callee:= .builtin .append,args:=#[s,x],argTypes:=#[t,t] })
  (e:TypeId) (i:TypeInfo) (z:Value) (size bytes:Nat) (ht:P.underlying t=some (.slice e)) (hi:P.info? e=some i) (hz:i.zero=some z)
  (hsize:i.size=size) (hby:i.bytes=bytes)
  (ad:Addr) (n:Nat) (xs:List Value) (hs:a.eval s= .slice (some ad) n n) (hl:xs.length=n*size) (hc:∀ j u,xs[j]?=some u->w.cell? (ad.add j)=some u) (hB:ad.block<w.heap.size)
  (B:Nat) (A:Option Addr) (m c:Nat) (news:List Value) (hx:a.eval x= .slice A m c) (hr:Reads w B size A m news)
  (h63:n+m<=maxLen) (hbytes:(n+m)*bytes<=140737488355328)
  (h:∀ A' c' w',Reads w' w'.heap.size size A' (n+m) (xs++news)->Below w.heap.size w w'->K (a.put o.dst (.slice A' (n+m) c')) w'):
  if Region.wanted o (yielded ops a.tmps)=true then Oper.wp P o a w K Q else E:=by
 have hw:Region.wanted o (yielded ops a.tmps)=true:=by simp [Region.wanted,hgd]
 rw [if_pos hw];exact wp_append_full w s x t ho e i z size bytes ht hi hz hsize hby ad n xs hs hl hc hB B A m c news hx hr h63 hbytes h
end
end Mem
namespace Post
open Go.RowKit Go.WideShapes Go.ChangeShapes
section
variable {H:Type} {enc:TypeId×Value->H} {P:Program}
theorem post_of_below {f:Func} {s:ChangeSpec} {apart fresh handsOn again:Bool} {W W':World} {args:Array Value} {v:Value} {ds gs:List (DataW H)} {before pa pv:List MemPlace}
  (hW:DataW.Whole enc P f.params.toList s.vars apart W args.toList ds gs before)
  (hres:∀ (b:Nat) (sp:Nat->Bool) (hd:Bool),DataW.TrodAll enc P W' b sp hd f.resultTypes.toList (v.resultList f.resultTypes.size) (s.fn H (ds++gs)).results [])
  (hargs:∀ sp:Nat->Bool,(∀ p∈before,sp p.block=true)->DataW.TrodAll enc P W' 0 sp true f.params.toList args.toList (s.fn H (ds++gs)).args pa)
  (hvars:∀ sp:Nat->Bool,(∀ p∈before,sp p.block=true)->DataW.TrodVars enc P W' sp s.vars (s.fn H (ds++gs)).vars pv)
  (hps:before=pa++pv) (hb:Below W.heap.size W W')
  (hok:∀ (j:Nat) (t:TypeId) (r:Value),f.resultTypes[j]?=some t->(v.resultList f.resultTypes.size)[j]?=some r->Value.okWide P W' .any 0 t r):
  s.post enc P f apart fresh handsOn again W args v W':=by
 have hlt:∀ p∈before,p.block<W.heap.size:=fun p hp=>hW.lt p hp
 have hold:∀ p∈before,(fun b=>decide (b<W.heap.size)) p.block=true:=fun p hp=>by simpa using hlt p hp
 refine ⟨ds,gs,before,[],pa,pv,hW,hres _ _ _,hargs _ hold,hvars _ hold,World.keptBut_mono (fun p hp=>⟨hp,?_⟩) (hb.frame (·∈before)),fun _=>?_⟩
 ·rw [hps,List.mem_append] at hp
  exact Or.inr hp
 ·obtain ⟨_,_,_,_,_,hz,hn⟩:=hW
  refine ⟨hok,_,_,([]++pa)++pv,⟨[]++pa,pv,trodAll_append (hargs _ (fun _ _=>rfl)) (hres _ _ _),hvars _ (fun _ _=>rfl),rfl,?_,?_⟩,?_⟩
  ·intro b off hp
   have hin:MemPlace.cell b off∈before:=by rw [hps];simpa using hp
   rw [hb.frozen (hlt _ hin)];exact hz b off hin
  ·intro ha
   have:=hn ha;rw [hps] at this
   simpa using this
  ·intro p hp _
   rw [hps]
   simpa using hp
end
theorem below_drewN {B:Nat} {a w:World} (h:Below B a w) (n:Nat):Below B a (w.drewN n):=⟨h.os,h.tape,h.output,h.size,h.block⟩
end Post
end
end Go.Proofs.YtiiekaehbahenaaGreatDoor
