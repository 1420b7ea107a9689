/-
  Contracts of the code that the law reaches, and plain laws. Conditions: as each says.
-/
import Derived.WalkKit
import Derived.Below
import Derived.Laws.OwnMore
import Derived.Deep.AppendLies
import Derived.Deep.Draws
import Derived.Laws.Rows
import Derived.Maps.AppendAt
import Derived.RegionTactic
import Derived.OwnWalk
import Derived.WalkSpells
import Derived.Deep.RegionLaw
import Derived.Lib.OthersKept
import Derived.Lib.AppendStr
import Derived.ChangeSame
import Derived.BigQuiet
import Derived.Deep.QuietTactic
import Derived.StillTail
import Derived.Deep.RegionHeld3
set_option linter.all false
set_option maxHeartbeats 40000000
set_option maxRecDepth 100000
namespace Go.Proofs.YtmlejgdohcpmjaaGreatDoor
section
section
namespace Mem
open Go.RowKit
theorem block_of_add (a:Addr) (n:Nat):(a.add n).block=a.block:=by unfold Addr.add;split<;>rfl
theorem add_of_add (a:Addr) (i j:Nat):(a.add i).add j=a.add (i+j):=by
 unfold Addr.add
 by_cases hi:i=0<;>by_cases hj:j=0<;>simp [hi,hj,Nat.add_assoc]
def Reads (w:World) (B size:Nat) (A:Option Addr) (n:Nat) (xs:List Value):Prop:=
 xs.length=n*size/\(0<n->∃ ad,A=some ad/\ad.block<B/\∀ j u,xs[j]?=some u->w.cell? (ad.add j)=some u)
section
variable {w w':World} {B B' size n:Nat} {A:Option Addr} {xs:List Value}
theorem Reads.none_:Reads w B size A 0 []:=⟨by simp,fun h=>absurd h (by omega)⟩
theorem Reads.at_ {k:Nat} (h:Reads w B 1 A n xs) (hk:k<n):∃ ad u,A=some ad/\ad.block<B/\xs[k]?=some u/\w.cell? (ad.add k)=some u:=by
 obtain ⟨ad,e,hb,hc⟩:=h.2 (by omega)
 have hl:k<xs.length:=by have:=h.1;omega
 exact ⟨ad,xs[k],e,hb,List.getElem?_eq_getElem hl,hc k _ (List.getElem?_eq_getElem hl)⟩
theorem Reads.keep (h:Reads w B size A n xs) (hk:∀ p:Addr,p.block<B->w'.cell? p=w.cell? p):Reads w' B size A n xs:=
 ⟨h.1,fun hn=>by
  obtain ⟨ad,e,hb,hc⟩:=h.2 hn
  exact ⟨ad,e,hb,fun j u hu=>(hk _ (by rw [block_of_add];exact hb)).trans (hc j u hu)⟩⟩
theorem Reads.more (h:Reads w B size A n xs) (hB:B<=B'):Reads w B' size A n xs:=
 ⟨h.1,fun hn=>by
  obtain ⟨ad,e,hb,hc⟩:=h.2 hn
  exact ⟨ad,e,by omega,hc⟩⟩
theorem Reads.below (h:Reads w B size A n xs) (hb:Below B w w'):Reads w' B size A n xs:=h.keep fun _ hp=>hb.cell hp
theorem Reads.drew (h:Reads w B size A n xs):Reads w.drew B size A n xs:=h
theorem Reads.drewN (h:Reads w B size A n xs) (k:Nat):Reads (w.drewN k) B size A n xs:=h
theorem Reads.alloc (h:Reads w B size A n xs) (hB:B<=w.heap.size) (o:Obj):Reads (w.alloc o) B size A n xs:=h.keep fun p hp=>World.cell?_alloc_lt w o p (by omega)
theorem Reads.grown (h:Reads w B size A n xs) {row:Option Nat} (hg:w.grownBy w' row) (hB:B<=w.heap.size) (hr:∀ g,row=some g->B<=g):Reads w' B size A n xs:=
 h.keep fun p hp=>World.cell?_of_block (hg.block p.block (by omega) (fun e=>by have:=hr _ e.symm;omega))
theorem Reads.cut (h:Reads w B size A n xs) {k cap:Nat} (hk:k<=n) (hc:n<=cap):
  Reads w B size (if cap=k then A else A.map (·.add (k*size))) (n - k) (xs.drop (k*size)):=by
 refine ⟨by rw [List.length_drop,h.1,Nat.sub_mul],fun hn=>?_⟩
 obtain ⟨ad,rfl,hb,hcell⟩:=h.2 (by omega)
 rw [if_neg (by omega)]
 refine ⟨ad.add (k*size),rfl,by rw [block_of_add];exact hb,fun j u hu=>?_⟩
 rw [add_of_add]
 exact hcell _ u (by rw [<-hu,List.getElem?_drop])
theorem Reads.of_own {base:Nat} {e:TypeId} {c:Nat} (h:w.ownsRow base e size (.slice A n c) n xs):Reads w w.heap.size size A n xs:=by
 refine ⟨h.1,fun hn=>?_⟩
 obtain ⟨g,cap,hv,_,hlt⟩:=h.form hn
 have hA:A=some ⟨g,0,none⟩:=by injection hv
 subst hA;exact ⟨_,rfl,hlt,h.cells (g:=g) rfl⟩
end
def Blk (w:World) (g:Nat) (t:TypeId) (cs:Array Value):Prop:=w.heap[g]?=some (.cells cs t (0,0))
section
variable {w w':World} {g:Nat} {t:TypeId} {cs:Array Value}
theorem Blk.lt (h:Blk w g t cs):g<w.heap.size:=by
 rcases Nat.lt_or_ge g w.heap.size with hlt|hge
 ·exact hlt
 ·unfold Blk at h;rw [Array.getElem?_eq_none hge] at h;cases h
theorem Blk.cell (h:Blk w g t cs) (i:Nat):w.cell? ⟨g,i,none⟩=cs[i]?:=cell_of_row w g i cs t (0,0) h
theorem Blk.frozen (h:Blk w g t cs) (i:Nat):w.frozen? ⟨g,i,none⟩=false:=by
 unfold Blk at h;simp [World.frozen?,h]
theorem Blk.new (w:World) (t:TypeId) (cs:Array Value):Blk (w.alloc (.cells cs t)) w.heap.size t cs:=heap_alloc_new w _
theorem Blk.drew (h:Blk w g t cs):Blk w.drew g t cs:=h
theorem Blk.drewN (h:Blk w g t cs) (n:Nat):Blk (w.drewN n) g t cs:=h
theorem Blk.alloc (h:Blk w g t cs) (o:Obj):Blk (w.alloc o) g t cs:=(Below.heap_alloc w o g h.lt).trans h
theorem Blk.set_ (h:Blk w g t cs) (i:Nat) (u:Value):Blk (w.setCell ⟨g,i,none⟩ u) g t (cs.setIfInBounds i u):=by
 unfold Blk at h ⊢
 simp [World.setCell,Array.getElem?_modify,h]
theorem Blk.far (h:Blk w g t cs) {p:Addr} (hp:g≠p.block) (u:Value):Blk (w.setCell p u) g t cs:=(Below.heap_setCell w p u g hp).trans h
theorem Blk.below {B:Nat} (h:Blk w g t cs) (hb:Below B w w') (hg:g<B):Blk w' g t cs:=(hb.block g hg).trans h
theorem Blk.grown {row:Option Nat} (h:Blk w g t cs) (hb:w.grownBy w' row) (hg:some g≠row):Blk w' g t cs:=(hb.block g h.lt hg).trans h
theorem Blk.ne_ {g':Nat} {t':TypeId} {cs':Array Value} (h:Blk w g t cs) (h':Blk w g' t' cs') (hne:t≠t'):g≠g':=by
 rintro rfl;unfold Blk at h h';rw [h] at h'
 injection h' with h'
 injection h' with _ ht
 exact hne ht
theorem own_blk_ne {base:Nat} {e:TypeId} {size n:Nat} {v:Value} {xs:List Value} (h:w.ownsRow base e size v n xs) (hg:Blk w g t cs) (hne:e≠t):v.ownBlock≠some g:=by
 rcases h.2 with ⟨rfl,_⟩|⟨g',cap,cur,rfl,_,hh,_⟩
 ·simp [Value.ownBlock]
 ·intro he
  have:g'=g:=by simpa [Value.ownBlock] using he
  subst this;exact Blk.ne_ (t:=e) hh hg hne rfl
end
section
variable {P:Program} (w:World)
theorem run_append_of_nil (base:Nat) (t ty e:TypeId) (i:TypeInfo) (size:Nat) (ht:P.underlying t=some (.slice e)) (hi:P.info? e=some i)
  (v:Value) (n:Nat) (xs:List Value) (hown:w.ownsRow base e size v n xs) (c:Nat):(Builtin.append_ #[t,t] ty #[v,.slice none 0 c]).run P w= .ok v w:=by
 rcases hown.2 with ⟨rfl,rfl⟩|⟨g,cap,cur,rfl,_,_,hnc,_⟩
 ·simp [Builtin.append_,run_underlying ht,sizeOf,typeInfo,hi,Builtin.lenOf,Builtin.firstCells]
 ·simp [Builtin.append_,run_underlying ht,sizeOf,typeInfo,hi,Builtin.lenOf,Builtin.firstCells,hnc,storeCells]
theorem run_append_any (base:Nat) (t ty e:TypeId) (i:TypeInfo) (z:Value) (size bytes:Nat) (ht:P.underlying t=some (.slice e)) (hi:P.info? e=some i) (hz:i.zero=some z)
  (hsize:i.size=size) (hby:i.bytes=bytes) (hzs:z.cells.size=size) (hsz:0<size)
  (v:Value) (n:Nat) (xs:List Value) (hown:w.ownsRow base e size v n xs)
  (B:Nat) (A:Option Addr) (m c:Nat) (news:List Value) (hr:Reads w B size A m news) (h1:∀ u∈news,u.oneCell'=true)
  (h63:n+m<=maxLen) (hbytes:(n+m)*bytes<=140737488355328) (hbase:base<=w.heap.size):
  ∃ v' w',(Builtin.append_ #[t,t] ty #[v,.slice A m c]).run P w= .ok v' w'/\w'.ownsRow base e size v' (n+m) (xs++news)/\w.grownBy w' v.ownBlock/\
   (v'.ownBlock=v.ownBlock\/v'.ownBlock=some w.heap.size):=by
 rcases A with _|ad
 ·have hm:m=0:=by
   rcases Nat.eq_zero_or_pos m with h0|h0
   ·exact h0
   ·obtain ⟨ad,h,_⟩:=hr.2 h0
    cases h
  subst hm
  have hn:news=[]:=List.eq_nil_of_length_eq_zero (by simpa using hr.1)
  subst hn
  exact ⟨v,w,run_append_of_nil w base t ty e i size ht hi v n xs hown c,by simpa using hown,World.grownBy.refl w _,.inl rfl⟩
 ·have hcells:∀ j u,news[j]?=some u->w.cell? (ad.add j)=some u:=by
   intro j u hu
   rcases Nat.eq_zero_or_pos m with h0|h0
   ·subst h0
    have hn:news=[]:=List.eq_nil_of_length_eq_zero (by simpa using hr.1)
    subst hn;simp at hu
   ·obtain ⟨ad',h,_,hc⟩:=hr.2 h0
    injection h with h
    subst h;exact hc j u hu
  obtain ⟨v',w',hrun,h2,h3,_,h5⟩:=run_append_own_at (P:=P) w base t ty e i z size bytes ht hi hz hsize hby hzs hsz v n xs hown ad m c news hr.1 hcells h1 h63 hbytes hbase;exact ⟨v',w',hrun,h2,h3,h5⟩
theorem wp_append_any {o:Oper} {a:Act} {K:Act->World->Prop} {Q:Exit->Act->World->Prop} (s x:Operand) (t:TypeId)
  (ho:o.op= .call { callee:= .builtin .append,args:=#[s,x],argTypes:=#[t,t] })
  (base:Nat) (e:TypeId) (i:TypeInfo) (z:Value) (size bytes:Nat) (ht:P.underlying t=some (.slice e)) (hi:P.info? e=some i) (hz:i.zero=some z)
  (hsize:i.size=size) (hby:i.bytes=bytes) (hzs:z.cells.size=size) (hsz:0<size)
  (v:Value) (n:Nat) (xs:List Value) (hs:a.eval s=v) (hown:w.ownsRow base e size v n xs)
  (B:Nat) (A:Option Addr) (m c:Nat) (news:List Value) (hx:a.eval x= .slice A m c) (hr:Reads w B size A m news) (h1:∀ u∈news,u.oneCell'=true)
  (h63:n+m<=maxLen) (hbytes:(n+m)*bytes<=140737488355328) (hbase:base<=w.heap.size)
  (h:∀ v' w',w'.ownsRow base e size v' (n+m) (xs++news)->w.grownBy w' v.ownBlock->(v'.ownBlock=v.ownBlock\/v'.ownBlock=some w.heap.size)->K (a.put o.dst v') w'):o.wp P a w K Q:=by
 obtain ⟨v',w',hrun,h2,h3,h4⟩:=run_append_any (P:=P) w base t o.type e i z size bytes ht hi hz hsize hby hzs hsz v n xs hown B A m c news hr h1 h63 hbytes hbase;unfold Oper.wp execOp;simp only [ho,resolve,invoke,builtin,Sem.run_bind,Sem.run_pure,Result.andThen_ok,List.map_toArray,List.map_cons,List.map_nil,hs,hx,hrun];exact h v' w' h2 h3 h4
theorem wpList_append_any {ops:Array Oper} {rest:List Oper} {o:Oper} {a:Act} {Q:Exit->Act->World->Prop} (hgd:o.guard=none) (s x:Operand) (t:TypeId)
  (ho:o.op= .call { callee:= .builtin .append,args:=#[s,x],argTypes:=#[t,t] })
  (base:Nat) (e:TypeId) (i:TypeInfo) (z:Value) (size bytes:Nat) (ht:P.underlying t=some (.slice e)) (hi:P.info? e=some i) (hz:i.zero=some z)
  (hsize:i.size=size) (hby:i.bytes=bytes) (hzs:z.cells.size=size) (hsz:0<size)
  (v:Value) (n:Nat) (xs:List Value) (hs:a.eval s=v) (hown:w.ownsRow base e size v n xs)
  (B:Nat) (A:Option Addr) (m c:Nat) (news:List Value) (hx:a.eval x= .slice A m c) (hr:Reads w B size A m news) (h1:∀ u∈news,u.oneCell'=true)
  (h63:n+m<=maxLen) (hbytes:(n+m)*bytes<=140737488355328) (hbase:base<=w.heap.size)
  (h:∀ v' w',w'.ownsRow base e size v' (n+m) (xs++news)->w.grownBy w' v.ownBlock->(v'.ownBlock=v.ownBlock\/v'.ownBlock=some w.heap.size)->wpList P ops Q rest (a.put o.dst v') w'):wpList P ops Q (o :: rest) a w:=
 wpList_plain hgd fun _ hK=>wp_append_any w s x t ho base e i z size bytes ht hi hz hsize hby hzs hsz v n xs hs hown B A m c news hx hr h1 h63 hbytes hbase fun v' w' h2 h3 h4=>hK _ _ (h v' w' h2 h3 h4)
theorem step_append_any {ops:Array Oper} {o:Oper} {a:Act} {K:Act->World->Prop} {Q:Exit->Act->World->Prop} {E:Prop} (hgd:o.guard=none) (s x:Operand) (t:TypeId)
  (ho:o.op= .call { callee:= .builtin .append,args:=#[s,x],argTypes:=#[t,t] })
  (base:Nat) (e:TypeId) (i:TypeInfo) (z:Value) (size bytes:Nat) (ht:P.underlying t=some (.slice e)) (hi:P.info? e=some i) (hz:i.zero=some z)
  (hsize:i.size=size) (hby:i.bytes=bytes) (hzs:z.cells.size=size) (hsz:0<size)
  (v:Value) (n:Nat) (xs:List Value) (hs:a.eval s=v) (hown:w.ownsRow base e size v n xs)
  (B:Nat) (A:Option Addr) (m c:Nat) (news:List Value) (hx:a.eval x= .slice A m c) (hr:Reads w B size A m news) (h1:∀ u∈news,u.oneCell'=true)
  (h63:n+m<=maxLen) (hbytes:(n+m)*bytes<=140737488355328) (hbase:base<=w.heap.size)
  (h:∀ v' w',w'.ownsRow base e size v' (n+m) (xs++news)->w.grownBy w' v.ownBlock->(v'.ownBlock=v.ownBlock\/v'.ownBlock=some w.heap.size)->K (a.put o.dst v') w'):
  if Region.wanted o (yielded ops a.tmps)=true then Oper.wp P o a w K Q else E:=by
 have hw:Region.wanted o (yielded ops a.tmps)=true:=by simp [Region.wanted,hgd]
 rw [if_pos hw];exact wp_append_any w s x t ho base e i z size bytes ht hi hz hsize hby hzs hsz v n xs hs hown B A m c news hx hr h1 h63 hbytes hbase h
end
section
variable {P:Program} (w:World)
theorem wpList_append1 {ops:Array Oper} {rest:List Oper} {o:Oper} {a:Act} {Q:Exit->Act->World->Prop} {cs:Array Value} (hgd:o.guard=none) (s x:Operand) (t:TypeId)
  (ho:o.op= .call { callee:= .builtin .append,args:=#[s,x],argTypes:=#[t,t] })
  (base:Nat) (e:TypeId) (i:TypeInfo) (z:Value) (size bytes:Nat) (ht:P.underlying t=some (.slice e)) (hi:P.info? e=some i) (hz:i.zero=some z)
  (hsize:i.size=size) (hby:i.bytes=bytes) (hzs:z.cells.size=size) (hsz:0<size)
  (v:Value) (n:Nat) (xs:List Value) (hs:a.eval s=v) (hown:w.ownsRow base e size v n xs)
  (hx:a.eval x= .slice (some ⟨w.heap.size,0,none⟩) 1 1) (hcs:cs.size=size) (h1:∀ u∈cs.toList,u.oneCell'=true)
  (h63:n+1<=maxLen) (hbytes:(n+1)*bytes<=140737488355328) (hbase:base<=w.heap.size)
  (h:∀ v' w',w'.ownsRow base e size v' (n+1) (xs++cs.toList)->Below base w w'->wpList P ops Q rest (a.put o.dst v') w'):wpList P ops Q (o :: rest) a (w.alloc (.cells cs e)):=by
 refine wpList_append_own (w.alloc (.cells cs e)) hgd s x t ho base e i z size bytes ht hi hz hsize hby hzs hsz v n xs hs (hown.alloc _) ⟨w.heap.size,0,none⟩ 1 1 cs.toList hx (by simp [hcs]) ?_ h1 h63 hbytes (by simp;omega) ?_
 ·intro j u hu
  have e1:(⟨w.heap.size,0,none⟩:Addr).add j=⟨w.heap.size,j,none⟩:=by unfold Addr.add;split<;>simp_all
  rw [e1,(Blk.new w e cs).cell j]
  simpa using hu
 ·intro v' w' h2 h3 _
  exact h v' w' h2 (((Below.refl _ _).alloc hbase _).grown h3 (by simp;omega) fun k hk=>(hown.lt k hk).1)
end
theorem box1 (w:World) (t:TypeId) (c:Array Value):Blk (w.alloc (.cells c t)) w.heap.size t c/\Below w.heap.size w (w.alloc (.cells c t))/\w.heap.size<(w.alloc (.cells c t)).heap.size:=
 ⟨Blk.new w t c,(Below.refl _ _).alloc (Nat.le_refl _) _,by simp⟩
theorem box2 (w:World) (t u:TypeId) (c d:Array Value):Blk ((w.alloc (.cells c t)).alloc (.cells d u)) w.heap.size t c/\Blk ((w.alloc (.cells c t)).alloc (.cells d u)) (w.heap.size+1) u d/\
  Below w.heap.size w ((w.alloc (.cells c t)).alloc (.cells d u))/\w.heap.size+1<((w.alloc (.cells c t)).alloc (.cells d u)).heap.size:=by
 refine ⟨(Blk.new w t c).alloc _,?_,((Below.refl _ _).alloc (Nat.le_refl _) _).alloc (by simp) _,by simp⟩
 have h:=Blk.new (w.alloc (.cells c t)) u d
 simpa using h
theorem box3 (w:World) (t u v:TypeId) (c d x:Array Value):Blk (((w.alloc (.cells c t)).alloc (.cells d u)).alloc (.cells x v)) w.heap.size t c/\Blk (((w.alloc (.cells c t)).alloc (.cells d u)).alloc (.cells x v)) (w.heap.size+1) u d/\
  Blk (((w.alloc (.cells c t)).alloc (.cells d u)).alloc (.cells x v)) (w.heap.size+1+1) v x/\Below w.heap.size w (((w.alloc (.cells c t)).alloc (.cells d u)).alloc (.cells x v))/\w.heap.size+1+1<(((w.alloc (.cells c t)).alloc (.cells d u)).alloc (.cells x v)).heap.size:=by
 obtain ⟨h1,h2,h3,h4⟩:=box2 w t u c d
 refine ⟨h1.alloc _,h2.alloc _,?_,h3.alloc (by simp;omega) _,by simp⟩
 have h:=Blk.new ((w.alloc (.cells c t)).alloc (.cells d u)) v x
 simpa using h
theorem same_of {B:Nat} {W W':World} (h:Below B W W'):(∀ b o,b<B->W'.cell? ⟨b,o,none⟩=W.cell? ⟨b,o,none⟩)/\Below B W W':=⟨fun b o hb=>h.cell (p:=⟨b,o,none⟩) hb,h⟩
theorem below_drew (W:World):Below W.heap.size W W.drew:=(Below.refl _ _).drew
end Mem
namespace Mem
open Go.RowKit
section
variable {P:Program} (w:World)
theorem wp_append1 {o:Oper} {a:Act} {K:Act->World->Prop} {Q:Exit->Act->World->Prop} {cs:Array Value} (s x:Operand) (t:TypeId)
  (ho:o.op= .call { callee:= .builtin .append,args:=#[s,x],argTypes:=#[t,t] })
  (base:Nat) (e:TypeId) (i:TypeInfo) (z:Value) (size bytes:Nat) (ht:P.underlying t=some (.slice e)) (hi:P.info? e=some i) (hz:i.zero=some z)
  (hsize:i.size=size) (hby:i.bytes=bytes) (hzs:z.cells.size=size) (hsz:0<size)
  (v:Value) (n:Nat) (xs:List Value) (hs:a.eval s=v) (hown:w.ownsRow base e size v n xs)
  (hx:a.eval x= .slice (some ⟨w.heap.size,0,none⟩) 1 1) (hcs:cs.size=size) (h1:∀ u∈cs.toList,u.oneCell'=true)
  (h63:n+1<=maxLen) (hbytes:(n+1)*bytes<=140737488355328) (hbase:base<=w.heap.size)
  (h:∀ v' w',w'.ownsRow base e size v' (n+1) (xs++cs.toList)->(w.alloc (.cells cs e)).grownBy w' v.ownBlock->K (a.put o.dst v') w'):Oper.wp P o a (w.alloc (.cells cs e)) K Q:=by
 refine wp_append_own (w.alloc (.cells cs e)) s x t ho base e i z size bytes ht hi hz hsize hby hzs hsz v n xs hs (hown.alloc _) ⟨w.heap.size,0,none⟩ 1 1 cs.toList hx (by simp [hcs]) ?_ h1 h63 hbytes (by simp;omega) ?_
 ·intro j u hu
  have e1:(⟨w.heap.size,0,none⟩:Addr).add j=⟨w.heap.size,j,none⟩:=by unfold Addr.add;split<;>simp_all
  rw [e1,(Blk.new w e cs).cell j]
  simpa using hu
 ·intro v' w' h2 h3 _
  exact h v' w' h2 h3
theorem step_append1 {ops:Array Oper} {o:Oper} {a:Act} {K:Act->World->Prop} {Q:Exit->Act->World->Prop} {E:Prop} {cs:Array Value} (hgd:o.guard=none) (s x:Operand) (t:TypeId)
  (ho:o.op= .call { callee:= .builtin .append,args:=#[s,x],argTypes:=#[t,t] })
  (base:Nat) (e:TypeId) (i:TypeInfo) (z:Value) (size bytes:Nat) (ht:P.underlying t=some (.slice e)) (hi:P.info? e=some i) (hz:i.zero=some z)
  (hsize:i.size=size) (hby:i.bytes=bytes) (hzs:z.cells.size=size) (hsz:0<size)
  (v:Value) (n:Nat) (xs:List Value) (hs:a.eval s=v) (hown:w.ownsRow base e size v n xs)
  (hx:a.eval x= .slice (some ⟨w.heap.size,0,none⟩) 1 1) (hcs:cs.size=size) (h1:∀ u∈cs.toList,u.oneCell'=true)
  (h63:n+1<=maxLen) (hbytes:(n+1)*bytes<=140737488355328) (hbase:base<=w.heap.size)
  (h:∀ v' w',w'.ownsRow base e size v' (n+1) (xs++cs.toList)->(w.alloc (.cells cs e)).grownBy w' v.ownBlock->K (a.put o.dst v') w'):
  if Region.wanted o (yielded ops a.tmps)=true then Oper.wp P o a (w.alloc (.cells cs e)) K Q else E:=by
 have hw:Region.wanted o (yielded ops a.tmps)=true:=by simp [Region.wanted,hgd]
 rw [if_pos hw];exact wp_append1 w s x t ho base e i z size bytes ht hi hz hsize hby hzs hsz v n xs hs hown hx hcs h1 h63 hbytes hbase h
theorem wpList_append1g {ops:Array Oper} {rest:List Oper} {o:Oper} {a:Act} {Q:Exit->Act->World->Prop} {cs:Array Value} (hgd:o.guard=none) (s x:Operand) (t:TypeId)
  (ho:o.op= .call { callee:= .builtin .append,args:=#[s,x],argTypes:=#[t,t] })
  (base:Nat) (e:TypeId) (i:TypeInfo) (z:Value) (size bytes:Nat) (ht:P.underlying t=some (.slice e)) (hi:P.info? e=some i) (hz:i.zero=some z)
  (hsize:i.size=size) (hby:i.bytes=bytes) (hzs:z.cells.size=size) (hsz:0<size)
  (v:Value) (n:Nat) (xs:List Value) (hs:a.eval s=v) (hown:w.ownsRow base e size v n xs)
  (hx:a.eval x= .slice (some ⟨w.heap.size,0,none⟩) 1 1) (hcs:cs.size=size) (h1:∀ u∈cs.toList,u.oneCell'=true)
  (h63:n+1<=maxLen) (hbytes:(n+1)*bytes<=140737488355328) (hbase:base<=w.heap.size)
  (h:∀ v' w',w'.ownsRow base e size v' (n+1) (xs++cs.toList)->(w.alloc (.cells cs e)).grownBy w' v.ownBlock->wpList P ops Q rest (a.put o.dst v') w'):wpList P ops Q (o :: rest) a (w.alloc (.cells cs e)):=
 wpList_plain hgd fun _ hK=>wp_append1 w s x t ho base e i z size bytes ht hi hz hsize hby hzs hsz v n xs hs hown hx hcs h1 h63 hbytes hbase fun v' w' h2 h3=>hK _ _ (h v' w' h2 h3)
end
end Mem
namespace Mem
open Go.RowKit
section
variable {P:Program} (w:World)
theorem run_append_full (t ty e:TypeId) (i:TypeInfo) (z:Value) (size bytes:Nat) (ht:P.underlying t=some (.slice e)) (hi:P.info? e=some i) (hz:i.zero=some z)
  (hsize:i.size=size) (hby:i.bytes=bytes)
  (ad:Addr) (n:Nat) (xs:List Value) (hl:xs.length=n*size) (hc:∀ j u,xs[j]?=some u->w.cell? (ad.add j)=some u) (hB:ad.block<w.heap.size)
  (B:Nat) (A:Option Addr) (m c:Nat) (news:List Value) (hr:Reads w B size A m news)
  (h63:n+m<=maxLen) (hbytes:(n+m)*bytes<=140737488355328):
  ∃ A' c' w',(Builtin.append_ #[t,t] ty #[.slice (some ad) n n,.slice A m c]).run P w= .ok (.slice A' (n+m) c') w'/\Reads w' w'.heap.size size A' (n+m) (xs++news)/\Below w.heap.size w w':=by
 subst hsize;subst hby
 rcases Nat.eq_zero_or_pos m with rfl|hm
 ·have hn:news=[]:=List.eq_nil_of_length_eq_zero (by simpa using hr.1)
  subst hn
  refine ⟨some ad,n,w,?_,⟨by simpa using hl,fun _=>⟨ad,rfl,hB,by simpa using hc⟩⟩,Below.refl _ _⟩
  rcases A with _|a
  ·simp [Builtin.append_,run_underlying ht,sizeOf,typeInfo,hi,Builtin.lenOf,Builtin.firstCells,storeCells]
  ·simp [Builtin.append_,run_underlying ht,sizeOf,typeInfo,hi,Builtin.lenOf,Builtin.firstCells,storeCells,loadCells,loadCellsFrom]
 ·obtain ⟨a,rfl,_,hnews⟩:=hr.2 hm
  have hsmall:n+m<=9223372036854775807:=by simp only [maxLen] at h63;omega
  have hrun:=run_append_grow (P:=P) w t ty e i z ht hi hz ad n n xs hl hc a m c news hr.1 hnews (by omega) (by omega) (growslice_fits (by omega) hbytes)
  refine ⟨_,_,_,hrun,⟨by rw [List.length_append,hl,hr.1,Nat.add_mul],fun _=>⟨_,rfl,by simp,fun j u hu=>?_⟩⟩,?_⟩
  ·have e1:(⟨w.heap.size,0,none⟩:Addr).add j=⟨w.heap.size,j,none⟩:=by unfold Addr.add;split<;>simp_all
   rw [e1];have hb:=Blk.new w.drew e (xs.toArray++news.toArray++Builtin.zeroCells z.cells (grownCap w (n+m) n e - (n+m)));rw [show w.drew.heap.size=w.heap.size from rfl] at hb;rw [hb.cell j]
   have hj:j<(xs++news).length:=(List.getElem?_eq_some_iff.1 hu).1
   rw [Array.getElem?_append_left (by simpa using hj),<-hu]
   simp
  ·exact ((Below.refl _ _).drew).alloc (Nat.le_refl _) _
theorem wp_append_full {o:Oper} {a:Act} {K:Act->World->Prop} {Q:Exit->Act->World->Prop} (s x:Operand) (t:TypeId)
  (ho:o.op= .call { callee:= .builtin .append,args:=#[s,x],argTypes:=#[t,t] })
  (e:TypeId) (i:TypeInfo) (z:Value) (size bytes:Nat) (ht:P.underlying t=some (.slice e)) (hi:P.info? e=some i) (hz:i.zero=some z)
  (hsize:i.size=size) (hby:i.bytes=bytes)
  (ad:Addr) (n:Nat) (xs:List Value) (hs:a.eval s= .slice (some ad) n n) (hl:xs.length=n*size) (hc:∀ j u,xs[j]?=some u->w.cell? (ad.add j)=some u) (hB:ad.block<w.heap.size)
  (B:Nat) (A:Option Addr) (m c:Nat) (news:List Value) (hx:a.eval x= .slice A m c) (hr:Reads w B size A m news)
  (h63:n+m<=maxLen) (hbytes:(n+m)*bytes<=140737488355328)
  (h:∀ A' c' w',Reads w' w'.heap.size size A' (n+m) (xs++news)->Below w.heap.size w w'->K (a.put o.dst (.slice A' (n+m) c')) w'):o.wp P a w K Q:=by
 obtain ⟨A',c',w',hrun,h2,h3⟩:=run_append_full (P:=P) w t o.type e i z size bytes ht hi hz hsize hby ad n xs hl hc hB B A m c news hr h63 hbytes;unfold Oper.wp execOp;simp only [ho,resolve,invoke,builtin,Sem.run_bind,Sem.run_pure,Result.andThen_ok,List.map_toArray,List.map_cons,List.map_nil,hs,hx,hrun];exact h A' c' w' h2 h3
theorem wpList_append_full {ops:Array Oper} {rest:List Oper} {o:Oper} {a:Act} {Q:Exit->Act->World->Prop} (hgd:o.guard=none) (s x:Operand) (t:TypeId)
  (ho:o.op= .call { callee:= .builtin .append,args:=#[s,x],argTypes:=#[t,t] })
  (e:TypeId) (i:TypeInfo) (z:Value) (size bytes:Nat) (ht:P.underlying t=some (.slice e)) (hi:P.info? e=some i) (hz:i.zero=some z)
  (hsize:i.size=size) (hby:i.bytes=bytes)
  (ad:Addr) (n:Nat) (xs:List Value) (hs:a.eval s= .slice (some ad) n n) (hl:xs.length=n*size) (hc:∀ j u,xs[j]?=some u->w.cell? (ad.add j)=some u) (hB:ad.block<w.heap.size)
  (B:Nat) (A:Option Addr) (m c:Nat) (news:List Value) (hx:a.eval x= .slice A m c) (hr:Reads w B size A m news)
  (h63:n+m<=maxLen) (hbytes:(n+m)*bytes<=140737488355328)
  (h:∀ A' c' w',Reads w' w'.heap.size size A' (n+m) (xs++news)->Below w.heap.size w w'->wpList P ops Q rest (a.put o.dst (.slice A' (n+m) c')) w'):wpList P ops Q (o :: rest) a w:=
 wpList_plain hgd fun _ hK=>wp_append_full w s x t ho e i z size bytes ht hi hz hsize hby ad n xs hs hl hc hB B A m c news hx hr h63 hbytes fun A' c' w' h2 h3=>hK _ _ (h A' c' w' h2 h3)
end
end Mem
namespace Post
open Go.RowKit Go.WideShapes Go.ChangeShapes
section
variable {H:Type} {enc:TypeId×Value->H} {P:Program}
theorem post_of_below {f:Func} {s:ChangeSpec} {apart fresh handsOn again:Bool} {W W':World} {args:Array Value} {v:Value} {ds gs:List (DataW H)} {before pa pv:List MemPlace}
  (hW:DataW.Whole enc P f.params.toList s.vars apart W args.toList ds gs before)
  (hres:∀ (b:Nat) (sp:Nat->Bool) (hd:Bool),DataW.TrodAll enc P W' b sp hd f.resultTypes.toList (v.resultList f.resultTypes.size) (s.fn H (ds++gs)).results [])
  (hargs:∀ sp:Nat->Bool,(∀ p∈before,sp p.block=true)->DataW.TrodAll enc P W' 0 sp true f.params.toList args.toList (s.fn H (ds++gs)).args pa)
  (hvars:∀ sp:Nat->Bool,(∀ p∈before,sp p.block=true)->DataW.TrodVars enc P W' sp s.vars (s.fn H (ds++gs)).vars pv)
  (hps:before=pa++pv) (hb:Below W.heap.size W W')
  (hok:∀ (j:Nat) (t:TypeId) (r:Value),f.resultTypes[j]?=some t->(v.resultList f.resultTypes.size)[j]?=some r->Value.okWide P W' .any 0 t r):
  s.post enc P f apart fresh handsOn again W args v W':=by
 have hlt:∀ p∈before,p.block<W.heap.size:=fun p hp=>hW.lt p hp
 have hold:∀ p∈before,(fun b=>decide (b<W.heap.size)) p.block=true:=fun p hp=>by simpa using hlt p hp
 refine ⟨ds,gs,before,[],pa,pv,hW,hres _ _ _,hargs _ hold,hvars _ hold,World.keptBut_mono (fun p hp=>⟨hp,?_⟩) (hb.frame (·∈before)),fun _=>?_⟩
 ·rw [hps,List.mem_append] at hp
  exact Or.inr hp
 ·obtain ⟨_,_,_,_,_,hz,hn⟩:=hW
  refine ⟨hok,_,_,([]++pa)++pv,⟨[]++pa,pv,trodAll_append (hargs _ (fun _ _=>rfl)) (hres _ _ _),hvars _ (fun _ _=>rfl),rfl,?_,?_⟩,?_⟩
  ·intro b off hp
   have hin:MemPlace.cell b off∈before:=by rw [hps];simpa using hp
   rw [hb.frozen (hlt _ hin)];exact hz b off hin
  ·intro ha
   have:=hn ha;rw [hps] at this
   simpa using this
  ·intro p hp _
   rw [hps]
   simpa using hp
end
end Post
end
end
section
section
namespace Qt
open Go
structure In (Cls:World->Prop) where
 w:World
 h:Cls w
theorem wp_region_cls {P:Program} {id:Nat} {Q:Exit->Act->World->Prop} {a:Act} {w:World} {l:List Oper} (Cls:World->Prop) (hm:P.follows .mixedOrders=true) (hB:Region.lexB .any l.toArray=true) (hC:Cls w.drew)
  (h:wpQuiet P l.toArray (fun w'=>∃ z:In Cls,w'=z.w) (fun a'=>∀ w',(∃ z:In Cls,w'=z.w)->Q .normal a' w') l a):(Code.region id l.toArray true).wp P Q a w:=
 wp_region_quiet (C:=fun w'=>∃ z:In Cls,w'=z.w) hm hB ⟨⟨w.drew,hC⟩,rfl⟩ (by simpa using h)
theorem quiet_cls {P:Program} {f:FuncId} {args:Array Value} {Cls:World->Prop} {w:World} {v:Value}
  (h:Calls P f args w fun e w'=>e= .returned v/\Cls w'):Calls P f args w fun e w''=>e= .returned v/\∃ z':In Cls,w''=z'.w:=
 h.mono fun _ w' ⟨he,hc⟩=>⟨he,⟨w',hc⟩,rfl⟩
end Qt
namespace Qt
open Go
section
variable {P:Program} {ops:Array Oper} {md:Region.Mode} {C:World->Prop}
def wpHd (P:Program) (md:Region.Mode) (ops:Array Oper) (C:World->Prop) (n:Nat) (L:Array Bool->Act->Prop):Nat->Array Bool->Act->Prop
 |0,listed,a=>L listed a
 |f+1,listed,a=>Region.ready md ops listed≠[]/\∀ i∈Region.ready md ops listed,i<n/\qOp P ops C i (wpHd P md ops C n L f (listed.setIfInBounds i true)) a
theorem wpAny_of_hd {n g:Nat} {L:Array Bool->Act->Prop} {Q':Exit->Act->World->Prop} (hL:∀ listed a w,C w->L listed a->wpAny P md ops Q' g listed a w):
  ∀ (f:Nat) (listed:Array Bool) (a:Act) (w:World),C w->wpHd P md ops C n L f listed a->wpAny P md ops Q' (f+g) listed a w
 |0,listed,a,w,hC,h=>by rw [Nat.zero_add];exact hL _ _ _ hC h
 |f+1,listed,a,w,hC,h=>by
  rw [show f+1+g=(f+g)+1 by omega]
  exact ⟨fun e=>absurd e h.1,fun i hi=>wpOp_of_qOp hC (fun a' w' hw' h'=>wpAny_of_hd hL f _ a' w' hw' h') (h.2 i hi).2⟩
theorem ready_lt {n i j:Nat} {listed:Array Bool} (hs:Region.sinkB md ops n=true) (hc:Region.chainB md ops n=true) (hn:n<ops.size) (hin:i<n) (inv:HeadInv md ops n listed)
  (hr:i∈Region.ready md ops listed) (hj:j∈Region.ready md ops listed):j<n:=by
 rcases Nat.lt_or_ge j n with h|h
 ·exact h
 ·exact absurd hj (tail_waits hs hc hn inv _ i rfl hin (mem_ready.1 hr).1 j h)
theorem no_edge {i:Nat} {oj:Oper} {listed:Array Bool} (hr:i∈Region.ready md ops listed) (hall:∀ e∈oj.after,Region.binds md e=true->listed.getD e.on false=true):
  ∀ e∈oj.after,Region.binds md e=true->e.on≠i:=fun e he hb heq=>by
 have h1:=hall e he hb;rw [heq,getD_both (mem_ready.1 hr).1] at h1
 cases h1
theorem hd_first {n i:Nat} {oi:Oper} {v:Value} {L:Array Bool->Act->Prop} (hi:ops[i]?=some oi) (hsel:∀ (j:Nat) (o:Oper) cs b,ops[j]?=some o->o.op≠.select cs b)
  (hs:Region.sinkB md ops n=true) (hc:Region.chainB md ops n=true) (hn:n<ops.size) (hin:i<n) (hdone:∀ listed a,L listed a->∀ j∈Region.ready md ops listed,n<=j):
  ∀ (f:Nat) (listed:Array Bool) (a:Act),HeadInv md ops n listed->
   (∀ j oj,ops[j]?=some oj->j≠i->listed.getD j true=false->(∀ e∈oj.after,Region.binds md e=true->e.on≠i)->oi.apart ops oj=true)->
   i∈Region.ready md ops listed->YieldsIn P ops C oi v a->
   wpHd P md ops C n L f (listed.setIfInBounds i true) (a.put oi.dst v)->wpHd P md ops C n L (f+1) listed a:=by
 intro f
 induction f with
 |zero=>
  intro listed a inv _ hr hy H
  refine ⟨fun e=>(by rw [e] at hr;cases hr),fun j hj=>?_⟩
  have hjn:=ready_lt hs hc hn hin inv hr hj
  by_cases hji:j=i
  ·subst hji
   exact ⟨hjn,hy.qOp hi H⟩
  ·have:=hdone _ _ H j (ready_mono hj hji)
   omega
 |succ f ih=>
  intro listed a inv hfree hr hy H
  refine ⟨fun e=>(by rw [e] at hr;cases hr),fun j hj=>?_⟩
  have hjn:=ready_lt hs hc hn hin inv hr hj
  by_cases hji:j=i
  ·subst hji
   exact ⟨hjn,hy.qOp hi H⟩
  ·refine ⟨hjn,?_⟩
   obtain ⟨hjun,oj,hoj,hall⟩:=mem_ready.1 hj;have h2:=qOp_put hoj (hfree j oj hoj hji hjun (no_edge hr hall)) (fun cs b=>hsel i oi cs b hi) (fun cs b=>hsel j oj cs b hoj) hy (H.2 j (ready_mono hj hji)).2
   refine qOp_mono (fun a' h3=>ih (listed.setIfInBounds j true) a' (inv.set hj hjn) (fun k ok hk hki hun hno=>?_) (ready_mono hr (Ne.symm hji)) h3.1 ?_) h2
   ·refine hfree k ok hk hki ?_ hno
    by_cases hjk:j=k
    ·subst hjk;exact hjun
    ·rw [getD_set_ne true hjk] at hun;exact hun
   ·rw [Array.setIfInBounds_comm _ _ hji]
    exact h3.2
theorem hd_lex {n g:Nat} {Lq:Act->Prop} (hsel:Region.noSelect ops=true) (hs:Region.sinkB md ops n=true) (hc:Region.chainB md ops n=true) (hn:n<ops.size):
  ∀ (l:List Oper) (k:Nat) (listed:Array Bool) (a:Act),(∀ j,j<l.length->l[j]?=ops[k+j]?)->k+l.length=n->HeadInv md ops n listed->
  Region.lexHead md ops g l.length k listed=true->wpQuiet P ops C Lq l a->
  wpHd P md ops C n (fun listed' a'=>Region.seqB md ops g n listed'=true/\Lq a') l.length listed a
 |[],k,listed,a,_,hk,_,hB,h=>by
  obtain rfl:k=n:=by simpa using hk
  exact ⟨by simpa [Region.lexHead] using hB,h⟩
 |o :: l,k,listed,a,hl,hk,inv,hB,h=>by
  have h0:ops[k]?=some o:=by simpa using (hl 0 (by simp)).symm
  simp only [List.length_cons,Region.lexHead,Bool.and_eq_true] at hB;obtain ⟨⟨hr,hf⟩,hB'⟩:=hB
  have hkn:k<n:=by simp only [List.length_cons] at hk;omega
  have hr':k∈Region.ready md ops listed:=by simpa using hr
  have hst:qOp P ops C k (wpQuiet P ops C Lq l) a:=by unfold qOp;simp only [h0];exact h
  obtain ⟨v,hy,hK⟩:=yieldsIn_of_qOp h0 hst
  exact hd_first h0 (Region.noSelect_spec hsel) hs hc hn hkn (fun listed' a' hL=>seqB_ready hL.1) l.length listed a inv (Region.free_spec h0 hf) hr' hy
   (hd_lex hsel hs hc hn l (k+1) _ _ (fun j hj=>by have:=hl (j+1) (by simp;omega);simpa [Nat.add_assoc,Nat.add_comm 1 j] using this) (by simp only [List.length_cons] at hk;omega) (inv.set hr' hkn) hB' hK)
end
theorem wp_region_cls_tail {P:Program} {id:Nat} {Q:Exit->Act->World->Prop} {a:Act} {w:World} {l:List Oper} (Cls:World->Prop) (n:Nat) (hm:P.follows .mixedOrders=true) (hB:Region.lexTailB .any l.toArray n=true) (hC:Cls w.drew)
  (h:wpQuiet P l.toArray (fun w'=>∃ z:In Cls,w'=z.w) (fun a'=>∀ w',(∃ z:In Cls,w'=z.w)->wpList P l.toArray Q (l.drop n) a' w') (l.take n) a):(Code.region id l.toArray true).wp P Q a w:=by
 simp only [Region.lexTailB,Bool.and_eq_true,decide_eq_true_eq] at hB;obtain ⟨⟨⟨⟨hsel,hn⟩,hs⟩,hc⟩,hlex⟩:=hB
 have hn':n<l.length:=by simpa using hn
 have htl:(l.take n).length=n:=by simp;omega
 have hdl:(l.drop n).length=l.toArray.size - n:=by simp
 have inv0:HeadInv .any l.toArray n (Array.replicate l.toArray.size false):=
  ⟨by simp,fun j oj _ hl=>(by rw [getD_replicate_false] at hl;cases hl),fun t _ ht=>getD_in (by simpa using ht) (getD_replicate_false _ _)⟩
 have H:=hd_lex (md:= .any) (g:=l.toArray.size - n) hsel hs hc hn (l.take n) 0 _ a (fun j hj=>by
  have hj':j<n:=by rw [htl] at hj;exact hj
  simp [hj']) (by simpa using htl) inv0 (by rw [htl];exact hlex) h
 refine wp_region_any hm ?_
 have:=wpAny_of_hd (C:=fun w'=>∃ z:In Cls,w'=z.w) (Q':=Q) (g:=l.toArray.size - n) (fun listed a' w' hw' hL=>by
  have:=wpAny_of_seq (md:= .any) (Q':=Q) (l.drop n) n listed a' w' (fun j=>by simp [List.getElem?_drop]) (by rw [hdl];exact hL.1) (hL.2 w' hw')
  rwa [hdl] at this) _ _ _ { w with drawn:=w.drawn+1 } ⟨⟨w.drew,hC⟩,rfl⟩ H
 rw [htl,show n+(l.toArray.size - n)=l.toArray.size by omega] at this
 exact this
end Qt
namespace Qt
open Go
section
variable {P:Program} {ops:Array Oper} {md:Region.Mode} {C:World->Prop}
def sinkB1 (md:Region.Mode) (ops:Array Oper) (m:Nat):Bool:=
 (List.range m).all fun i=>(List.range (m+2)).any fun j=>decide (i<j) && decide (j≠m) && Region.waitsFor md ops j i
theorem tail_waits1 {m:Nat} {listed:Array Bool} (hs:sinkB1 md ops m=true) (hc:Region.chainB md ops (m+1)=true) (hn:m+1<ops.size) (inv:HeadInv md ops (m+1) listed):
  ∀ (d i:Nat),m+1 - i=d->i<m->listed.getD i true=false->∀ t,m+1<=t->t ∉ Region.ready md ops listed:=by
 intro d
 induction d using Nat.strongRecOn with
 |_ d ih=>
  intro i hd hi hun t ht hr;obtain ⟨_,ot,hot,hall⟩:=mem_ready.1 hr
  have htlt:t<ops.size:=(Array.getElem?_eq_some_iff.1 hot).1
  rcases Nat.lt_or_ge (m+1) t with htn|htn
  ·have h1:=List.all_eq_true.1 hc t (List.mem_range.2 htlt)
   simp only [Bool.or_eq_true,decide_eq_true_eq] at h1
   rcases h1 with h1|h1
   ·omega
   ·obtain ⟨o',ho',e,he,hb,hon⟩:=Region.waitsFor_spec h1
    obtain rfl:=Option.some.inj (ho'.symm.trans hot);have h2:=hall e he hb
    rw [hon,getD_both (inv.tail (t - 1) (by omega) (by omega))] at h2
    cases h2
  ·obtain rfl:t=m+1:=by omega
   obtain ⟨j,hj,hj2⟩:=List.any_eq_true.1 (List.all_eq_true.1 hs i (List.mem_range.2 hi));simp only [Bool.and_eq_true,decide_eq_true_eq] at hj2;obtain ⟨oj,hoj,e,he,hb,hon⟩:=Region.waitsFor_spec hj2.2;have hjl:=List.mem_range.1 hj
   by_cases hjt:j=m+1
   ·subst hjt
    obtain rfl:=Option.some.inj (hoj.symm.trans hot);have h2:=hall e he hb;rw [hon,getD_both hun] at h2
    cases h2
   ·cases hl:listed.getD j false with
    |true=>
     have h2:=inv.closed j oj hoj hl e he hb;rw [hon,getD_both hun] at h2
     cases h2
    |false=>
     have hjs:j<listed.size:=by rw [inv.size];omega
     exact ih (m+1 - j) (by omega) j rfl (by omega) (getD_in hjs hl) (m+1) (Nat.le_refl _) hr
def Free (md:Region.Mode) (ops:Array Oper) (listed:Array Bool) (i:Nat) (oi:Oper):Prop:=
 ∀ j oj,ops[j]?=some oj->j≠i->listed.getD j true=false->(∀ e∈oj.after,Region.binds md e=true->e.on≠i)->oi.apart ops oj=true
theorem Free.set {listed:Array Bool} {i j:Nat} {oi:Oper} (h:Free md ops listed i oi) (hj:listed.getD j true=false):Free md ops (listed.setIfInBounds j true) i oi:=fun k ok hk hki hun hno=>by
 refine h k ok hk hki ?_ hno
 by_cases hjk:j=k
 ·subst hjk;exact hj
 ·rw [getD_set_ne true hjk] at hun;exact hun
def wpHd1 (P:Program) (md:Region.Mode) (ops:Array Oper) (C:World->Prop) (m:Nat) (L:Array Bool->Act->Prop):Nat->Array Bool->Act->Prop
 |0,listed,a=>L listed a
 |f+1,listed,a=>Region.ready md ops listed≠[]/\(∀ i∈Region.ready md ops listed,i<m+1->qOp P ops C i (wpHd1 P md ops C m L f (listed.setIfInBounds i true)) a)/\
  ((∃ t∈Region.ready md ops listed,m+1<=t)->∃ (u:Nat) (ou:Oper) (v:Value),ops[u]?=some ou/\Free md ops listed u ou/\u∈Region.ready md ops listed/\Yields P ops ou v a/\wpHd1 P md ops C m L f (listed.setIfInBounds u true) (a.put ou.dst v))
theorem wpAny_of_hd1 {m g:Nat} {L:Array Bool->Act->Prop} {Q':Exit->Act->World->Prop} (hsel:∀ (j:Nat) (o:Oper) cs b,ops[j]?=some o->o.op≠.select cs b) (hQ:∀ c a a' w,Q' (.panic c) a w->Q' (.panic c) a' w)
  (hL:∀ listed a w,C w->L listed a->wpAny P md ops Q' g listed a w):
  ∀ (f:Nat) (listed:Array Bool) (a:Act) (w:World),C w->wpHd1 P md ops C m L f listed a->wpAny P md ops Q' (f+g) listed a w
 |0,listed,a,w,hC,h=>by rw [Nat.zero_add];exact hL _ _ _ hC h
 |f+1,listed,a,w,hC,h=>by
  rw [show f+1+g=(f+g)+1 by omega]
  by_cases ht:∃ t∈Region.ready md ops listed,m+1<=t
  ·obtain ⟨u,ou,v,hu,hf,hr,hy,hK⟩:=h.2.2 ht
   exact wpAny_first hu hsel (fun c a w h=>hQ c _ _ w h) (f+g) listed a w hf hr hy (wpAny_of_hd1 hsel hQ hL f _ _ w hC hK)
  ·exact ⟨fun e=>absurd e h.1,fun i hi=>wpOp_of_qOp hC (fun a' w' hw' h'=>wpAny_of_hd1 hsel hQ hL f _ a' w' hw' h') (h.2.1 i hi (by
    rcases Nat.lt_or_ge i (m+1) with h1|h1
    ·exact h1
    ·exact absurd ⟨i,hi,h1⟩ ht))⟩
theorem qOp_put1 {j:Nat} {oi oj:Oper} {v:Value} (hj:ops[j]?=some oj) (hap:oi.apart ops oj=true) (hsi:∀ cs b,oi.op≠.select cs b) (hsj:∀ cs b,oj.op≠.select cs b) {K:Act->Prop} {a:Act}
  (h:qOp P ops C j K (a.put oi.dst v)):qOp P ops C j (fun a'=>(YieldsIn P ops C oi v a->YieldsIn P ops C oi v a')/\(Yields P ops oi v a->Yields P ops oi v a')/\K (a'.put oi.dst v)) a:=by
 obtain ⟨h1,h2,h3⟩:=Oper.apart_spec hap;have k1:∀ u,YieldsIn P ops C oi v a->YieldsIn P ops C oi v (a.put oj.dst u):=fun u hy=>hy.of_same (execOp_put oi hsi a oj.dst u h3) (wanted_put oi a oj.dst u h3);have k2:∀ u,Yields P ops oi v a->Yields P ops oi v (a.put oj.dst u):=fun u hy=>hy.of_same (execOp_put oi hsi a oj.dst u h3) (wanted_put oi a oj.dst u h3);unfold qOp at*;simp only [hj] at*;rw [wanted_put oj a oi.dst v h1] at h
 split
 ·rename_i hw
  simp only [hw,if_true] at h;obtain ⟨u,hu,hn⟩:=h
  refine ⟨u,fun w hw'=>?_,k1 u,k2 u,by rw [<-Act.put_comm a v u h2];exact hn⟩
  have:=hu w hw';unfold Oper.quietAt at*
  rwa [execOp_put oj hsj a oi.dst v h1] at this
 ·rename_i hw
  simp only [hw] at h
  exact ⟨k1 _,k2 _,by rw [<-Act.put_comm a v undef h2];exact h⟩
theorem hd1_first {m i:Nat} {oi:Oper} {v:Value} {L:Array Bool->Act->Prop} (hi:ops[i]?=some oi) (hsel:∀ (j:Nat) (o:Oper) cs b,ops[j]?=some o->o.op≠.select cs b)
  (hs:sinkB1 md ops m=true) (hc:Region.chainB md ops (m+1)=true) (hn:m+1<ops.size) (hin:i<m+1) (hdone:∀ listed a,L listed a->∀ j∈Region.ready md ops listed,m+1<=j):
  ∀ (f:Nat) (listed:Array Bool) (a:Act),HeadInv md ops (m+1) listed->Free md ops listed i oi->
   i∈Region.ready md ops listed->YieldsIn P ops C oi v a->(i=m->Yields P ops oi v a)->
   wpHd1 P md ops C m L f (listed.setIfInBounds i true) (a.put oi.dst v)->wpHd1 P md ops C m L (f+1) listed a:=by
 have last:∀ (f:Nat) (listed:Array Bool) (a:Act),HeadInv md ops (m+1) listed->Free md ops listed i oi->i∈Region.ready md ops listed->(i=m->Yields P ops oi v a)->
   wpHd1 P md ops C m L f (listed.setIfInBounds i true) (a.put oi.dst v)->(∃ t∈Region.ready md ops listed,m+1<=t)->
   ∃ (u:Nat) (ou:Oper) (v:Value),ops[u]?=some ou/\Free md ops listed u ou/\u∈Region.ready md ops listed/\Yields P ops ou v a/\wpHd1 P md ops C m L f (listed.setIfInBounds u true) (a.put ou.dst v):=by
  intro f listed a inv hf hr hy H ⟨t,ht,htm⟩
  have him:i=m:=by
   rcases Nat.lt_or_ge i m with h|h
   ·exact absurd ht (tail_waits1 hs hc hn inv _ i rfl h (mem_ready.1 hr).1 t htm)
   ·omega
  exact ⟨i,oi,v,hi,hf,hr,hy him,H⟩
 intro f
 induction f with
 |zero=>
  intro listed a inv hf hr hy hy1 H
  refine ⟨fun e=>(by rw [e] at hr;cases hr),fun j hj hjn=>?_,last _ _ _ inv hf hr hy1 H⟩
  by_cases hji:j=i
  ·subst hji
   exact hy.qOp hi H
  ·have:=hdone _ _ H j (ready_mono hj hji)
   omega
 |succ f ih=>
  intro listed a inv hf hr hy hy1 H
  refine ⟨fun e=>(by rw [e] at hr;cases hr),fun j hj hjn=>?_,last _ _ _ inv hf hr hy1 H⟩
  by_cases hji:j=i
  ·subst hji
   exact hy.qOp hi H
  ·obtain ⟨hjun,oj,hoj,hall⟩:=mem_ready.1 hj
   have h2:=qOp_put1 hoj (hf j oj hoj hji hjun (no_edge hr hall)) (fun cs b=>hsel i oi cs b hi) (fun cs b=>hsel j oj cs b hoj) (H.2.1 j (ready_mono hj hji) hjn)
   refine qOp_mono (fun a' h3=>ih (listed.setIfInBounds j true) a' (inv.set hj hjn) (hf.set hjun) (ready_mono hr (Ne.symm hji)) (h3.1 hy) (fun e=>h3.2.1 (hy1 e)) ?_) h2
   rw [Array.setIfInBounds_comm _ _ hji];exact h3.2.2
theorem hd1_lex {m g:Nat} {Lq:Act->Prop} {p:Oper} (hp:ops[m]?=some p) (hsel:Region.noSelect ops=true) (hs:sinkB1 md ops m=true) (hc:Region.chainB md ops (m+1)=true) (hn:m+1<ops.size):
  ∀ (l:List Oper) (k:Nat) (listed:Array Bool) (a:Act),(∀ j,j<l.length->l[j]?=ops[k+j]?)->k+l.length=m->HeadInv md ops (m+1) listed->
  Region.lexHead md ops g (l.length+1) k listed=true->wpQuiet P ops C (fun a1=>∃ v,YieldsIn P ops C p v a1/\Yields P ops p v a1/\Lq (a1.put p.dst v)) l a->
  wpHd1 P md ops C m (fun listed' a'=>Region.seqB md ops g (m+1) listed'=true/\Lq a') (l.length+1) listed a
 |[],k,listed,a,_,hk,inv,hB,⟨v,hy,hy1,h⟩=>by
  obtain rfl:k=m:=by simpa using hk
  simp only [List.length_nil,Region.lexHead,Bool.and_eq_true] at hB;obtain ⟨⟨hr,hf⟩,hB'⟩:=hB
  exact hd1_first hp (Region.noSelect_spec hsel) hs hc hn (by omega) (fun listed' a' hL=>seqB_ready hL.1) 0 listed a inv (Region.free_spec hp hf) (by simpa using hr) hy (fun _=>hy1) ⟨hB',h⟩
 |o :: l,k,listed,a,hl,hk,inv,hB,h=>by
  have h0:ops[k]?=some o:=by simpa using (hl 0 (by simp)).symm
  simp only [List.length_cons,Region.lexHead,Bool.and_eq_true] at hB;obtain ⟨⟨hr,hf⟩,hB'⟩:=hB
  have hkn:k<m:=by simp only [List.length_cons] at hk;omega
  have hr':k∈Region.ready md ops listed:=by simpa using hr
  have hst:qOp P ops C k (wpQuiet P ops C (fun a1=>∃ v,YieldsIn P ops C p v a1/\Yields P ops p v a1/\Lq (a1.put p.dst v)) l) a:=by unfold qOp;simp only [h0];exact h
  obtain ⟨v,hy,hK⟩:=yieldsIn_of_qOp h0 hst
  exact hd1_first h0 (Region.noSelect_spec hsel) hs hc hn (by omega) (fun listed' a' hL=>seqB_ready hL.1) (l.length+1) listed a inv (Region.free_spec h0 hf) hr' hy (fun e=>by omega)
   (hd1_lex hp hsel hs hc hn l (k+1) _ _ (fun j hj=>by have:=hl (j+1) (by simp;omega);simpa [Nat.add_assoc,Nat.add_comm 1 j] using this) (by simp only [List.length_cons] at hk;omega) (inv.set hr' (by omega)) (by simpa [Region.lexHead] using hB') hK)
theorem quiet_mono {Q Q2:Act->Prop} (hq:∀ a,Q a->Q2 a):∀ (l:List Oper) (a:Act),wpQuiet P ops C Q l a->wpQuiet P ops C Q2 l a
 |[],_,h=>hq _ h
 |o :: l,a,h=>by
  unfold wpQuiet at h ⊢
  split
  ·rename_i hw
   rw [if_pos hw] at h;exact Oper.quiet_mono (fun a' h'=>quiet_mono hq l a' h') h
  ·rename_i hw
   rw [if_neg hw] at h;exact quiet_mono hq l _ h
theorem yieldsIn_of {o:Oper} {v:Value} {a:Act} (h:Yields P ops o v a):YieldsIn P ops C o v a:=by
 rcases h with ⟨h1,h2⟩|h
 ·refine .inl ⟨h1,fun w _=>?_⟩
  unfold Oper.quietAt;rw [h2 w];exact ⟨rfl,rfl⟩
 ·exact .inr h
def lexB1 (md:Region.Mode) (ops:Array Oper) (m:Nat):Bool:=
 Region.noSelect ops && decide (m+1<ops.size) && sinkB1 md ops m && Region.chainB md ops (m+1) && Region.lexHead md ops (ops.size - (m+1)) (m+1) 0 (Array.replicate ops.size false)
end
theorem wp_region_cls_pick {P:Program} {id:Nat} {Q:Exit->Act->World->Prop} {a:Act} {w:World} {l:List Oper} (Cls:World->Prop) (m:Nat) (p:Oper) (hp:l.toArray[m]?=some p) (hm:P.follows .mixedOrders=true) (hB:lexB1 .any l.toArray m=true)
  (hC:Cls w.drew)
  (h:wpQuiet P l.toArray (fun w'=>∃ z:In Cls,w'=z.w) (fun a1=>∃ v,Yields P l.toArray p v a1/\∀ w',(∃ z:In Cls,w'=z.w)->wpList P l.toArray (NoPanic Q) (l.drop (m+1)) (a1.put p.dst v) w') (l.take m) a):(Code.region id l.toArray true).wp P Q a w:=by
 refine wp_region_noPanic ?_
 simp only [lexB1,Bool.and_eq_true,decide_eq_true_eq] at hB;obtain ⟨⟨⟨⟨hsel,hn⟩,hs⟩,hc⟩,hlex⟩:=hB
 have hn':m+1<l.length:=by simpa using hn
 have htl:(l.take m).length=m:=by simp;omega
 have hdl:(l.drop (m+1)).length=l.toArray.size - (m+1):=by simp
 have inv0:HeadInv .any l.toArray (m+1) (Array.replicate l.toArray.size false):=
  ⟨by simp,fun j oj _ hl=>(by rw [getD_replicate_false] at hl;cases hl),fun t _ ht=>getD_in (by simpa using ht) (getD_replicate_false _ _)⟩
 have h':wpQuiet P l.toArray (fun w'=>∃ z:In Cls,w'=z.w) (fun a1=>∃ v,YieldsIn P l.toArray (fun w'=>∃ z:In Cls,w'=z.w) p v a1/\Yields P l.toArray p v a1/\(fun a'=>∀ w',(∃ z:In Cls,w'=z.w)->wpList P l.toArray (NoPanic Q) (l.drop (m+1)) a' w') (a1.put p.dst v)) (l.take m) a:=
  quiet_mono (fun a1 ⟨v,h1,h2⟩=>⟨v,yieldsIn_of h1,h1,h2⟩) _ _ h
 have H:=hd1_lex (md:= .any) (C:=fun w'=>∃ z:In Cls,w'=z.w) (Lq:=fun a'=>∀ w',(∃ z:In Cls,w'=z.w)->wpList P l.toArray (NoPanic Q) (l.drop (m+1)) a' w') (g:=l.toArray.size - (m+1)) hp hsel hs hc hn (l.take m) 0 _ a (fun j hj=>by
  have hj':j<m:=by rw [htl] at hj;exact hj
  simp [hj']) (by simpa using htl) inv0 (by rw [htl];exact hlex) h'
 refine wp_region_any hm ?_
 have:=wpAny_of_hd1 (C:=fun w'=>∃ z:In Cls,w'=z.w) (Q':=NoPanic Q) (g:=l.toArray.size - (m+1)) (Region.noSelect_spec hsel) (fun c a a' w h=>h) (fun listed a' w' hw' hL=>by
  have:=wpAny_of_seq (md:= .any) (Q':=NoPanic Q) (l.drop (m+1)) (m+1) listed a' w' (fun j=>by simp [List.getElem?_drop]) (by rw [hdl];exact hL.1) (hL.2 w' hw')
  rwa [hdl] at this) _ _ _ { w with drawn:=w.drawn+1 } ⟨⟨w.drew,hC⟩,rfl⟩ H
 rw [htl,show m+1+(l.toArray.size - (m+1))=l.toArray.size by omega] at this
 exact this
end Qt
end
end
end Go.Proofs.YtmlejgdohcpmjaaGreatDoor
