/-
  Contracts of the code that the law reaches, and plain laws. Conditions: as each says.
-/
import Derived.Test.YtadamccojdocbaaGreatDoorV08
set_option linter.all false
set_option maxHeartbeats 40000000
set_option maxRecDepth 100000
namespace Go.Proofs.YtadamccojdocbaaGreatDoor
open Lib (hid)
open Tryz
section
section
namespace Slo
open Go.RowKit Mem
def OwnO (w:World) (base:Nat) (e:TypeId) (size:Nat) (A:Option Addr) (n c:Nat) (xs:List Value):Prop:=
 (n=0/\c=0/\xs=[])\/∃ g k ps,A=some ⟨g,k*size,none⟩/\ps.length=k*size/\w.ownsRow base e size (.slice (some ⟨g,0,none⟩) (k+n) (k+c)) (k+n) (ps++xs)
def blockO (A:Option Addr) (c:Nat):Option Nat:=if c=0 then none else A.map (·.block)
section
variable {w w':World} {base:Nat} {e:TypeId} {size:Nat} {A:Option Addr} {n c:Nat} {xs:List Value}
theorem OwnO.len (h:OwnO w base e size A n c xs):xs.length=n*size:=by
 rcases h with ⟨rfl,_,rfl⟩|⟨g,k,ps,_,hp,ho⟩
 ·simp
 ·have:=ho.1
  rw [List.length_append,hp,Nat.add_mul] at this;omega
theorem OwnO.cap (h:OwnO w base e size A n c xs):n<=c:=by
 rcases h with ⟨rfl,rfl,_⟩|⟨g,k,ps,_,hp,ho⟩
 ·exact Nat.le_refl _
 ·rcases ho.2 with ⟨hv,_⟩|⟨g',cap,cur,hv,_,_,hnc,_⟩
  ·cases hv
  ·injection hv with h1 h2 h3
   omega
theorem OwnO.nil (w:World) (base:Nat) (e:TypeId) (size:Nat):OwnO w base e size none 0 0 []:= .inl ⟨rfl,rfl,rfl⟩
theorem OwnO.kept {row:Option Nat} (h:OwnO w base e size A n c xs) (hg:w.grownBy w' row) (hr:∀ b,row=some b->blockO A c≠some b):OwnO w' base e size A n c xs:=by
 rcases h with h|⟨g,k,ps,rfl,hp,ho⟩
 ·exact .inl h
 ·by_cases hc:c=0
  ·subst hc
   have hn:n=0:=by
    have:=OwnO.cap (w:=w) (.inr ⟨g,k,ps,rfl,hp,ho⟩);omega
   subst hn
   refine .inl ⟨rfl,rfl,?_⟩
   have:=OwnO.len (w:=w) (.inr ⟨g,k,ps,rfl,hp,ho⟩)
   exact List.eq_nil_of_length_eq_zero (by simpa using this)
  ·refine .inr ⟨g,k,ps,rfl,hp,ho.kept hg ?_⟩
   cases row with
   |none=>exact .inr (by simp [Value.ownBlock])
   |some b=>
    right
    intro he;have:=hr b rfl;simp only [blockO,if_neg hc,Option.map_some,ne_eq,Option.some.injEq] at this;simp only [Value.ownBlock,Option.some.injEq] at he;exact this he
theorem OwnO.below (h:OwnO w base e size A n c xs) (hb:Below w.heap.size w w'):OwnO w' base e size A n c xs:=
 h.kept (row:=none) ⟨hb.os,hb.tape,hb.output,hb.size,fun j hj _=>hb.block j hj⟩ (fun b e=>by cases e)
theorem OwnO.base_lt (h:OwnO w base e size A n c xs) {b:Nat} (hb:blockO A c=some b):base<=b/\b<w.heap.size:=by
 rcases h with ⟨_,rfl,_⟩|⟨g,k,ps,rfl,_,ho⟩
 ·simp [blockO] at hb
 ·unfold blockO at hb
  split at hb
  ·cases hb
  ·simp only [Option.map_some,Option.some.injEq] at hb
   exact ho.lt b (by simp [Value.ownBlock,hb])
theorem OwnO.cellAt (h:OwnO w base e size A n c xs) (h0:0<n):∃ g o,A=some ⟨g,o,none⟩/\g<w.heap.size/\base<=g/\∀ j,j<n*size->w.cell? ⟨g,o+j,none⟩=xs[j]?:=by
 rcases h with ⟨rfl,_⟩|⟨g,k,ps,rfl,hp,ho⟩
 ·omega
 ·refine ⟨g,k*size,rfl,(ho.lt g rfl).2,(ho.lt g rfl).1,fun j hj=>?_⟩
  rw [ho.cellAt _ (by rw [Nat.add_mul];omega),List.getElem?_append_right (by omega),hp]
  congr 1
  omega
theorem OwnO.tail {x:List Value} (h:OwnO w base e size A (n+1) c (x++xs)) (hx:x.length=size):
  (c=1->n=0/\OwnO w base e size A 0 0 xs)/\(c≠1->∃ g o,A=some ⟨g,o,none⟩/\OwnO w base e size (some ⟨g,o+size,none⟩) n (c - 1) xs):=by
 have hc:=h.cap;have hl:=h.len;rw [List.length_append,hx,Nat.succ_mul] at hl
 rcases h with ⟨h0,_⟩|⟨g,k,ps,rfl,hp,ho⟩
 ·omega
 ·refine ⟨fun h1=>?_,fun h1=>?_⟩
  ·have h2:n=0:=by omega
   subst h2
   exact ⟨rfl,.inl ⟨rfl,rfl,List.eq_nil_of_length_eq_zero (by omega)⟩⟩
  ·refine ⟨g,k*size,rfl,.inr ⟨g,k+1,ps++x,by rw [Nat.succ_mul],by rw [List.length_append,hp,hx,Nat.succ_mul],?_⟩⟩
   rw [show k+1+n=k+(n+1) from by omega,show k+1+(c - 1)=k+c from by omega,List.append_assoc]
   exact ho
end
section
variable {P:Program} (w:World)
theorem run_append_empty (t ty e:TypeId) (i:TypeInfo) (ht:P.underlying t=some (.slice e)) (hi:P.info? e=some i) (A:Option Addr) (B:Option Addr) (c:Nat) (hB:B=none\/∃ b,B=some b):
  (Builtin.append_ #[t,t] ty #[.slice A 0 0,.slice B 0 c]).run P w= .ok (.slice A 0 0) w:=by
 rcases hB with rfl|⟨b,rfl⟩<;>cases A<;>simp [Builtin.append_,run_underlying ht,sizeOf,typeInfo,hi,Builtin.lenOf,Builtin.firstCells,storeCells,loadCells,loadCellsFrom]
theorem run_append_room_o (t ty e:TypeId) (i:TypeInfo) (ht:P.underlying t=some (.slice e)) (hi:P.info? e=some i)
  (g k sLen sCap:Nat) (cur:Array Value) (hg:w.heap[g]?=some (.cells cur e (0,0)))
  (a:Addr) (m c:Nat) (news:List Value) (hl:news.length=m*i.size) (hnews:∀ j u,news[j]?=some u->w.cell? (a.add j)=some u) (h1:∀ u∈news,u.oneCell'=true)
  (hroom:sLen+m<=sCap) (hfit:(k+sLen)*i.size+news.length<=cur.size):
  (Builtin.append_ #[t,t] ty #[.slice (some ⟨g,k*i.size,none⟩) sLen sCap,.slice (some a) m c]).run P w=
   .ok (.slice (some ⟨g,k*i.size,none⟩) (sLen+m) sCap) (w.setRow g (cur.toList.take ((k+sLen)*i.size)++news++cur.toList.drop ((k+sLen)*i.size+news.length)).toArray):=by
 have hf:=run_firstCells_some (P:=P) w i.size m a m c news hl hnews
 have hst:=run_storeCells_at P g ((k+sLen)*i.size) e news 0 cur w hg (by simpa using hfit) h1
 have ha:(⟨g,k*i.size,none⟩:Addr).add (sLen*i.size)=⟨g,(k+sLen)*i.size,none⟩:=by
  unfold Addr.add
  split
  ·next h=>simp only [h,Nat.add_mul,Nat.add_zero]
  ·simp only [Nat.add_mul]
 simp only [Nat.add_zero] at hst;simp [Builtin.append_,run_underlying ht,sizeOf,typeInfo,hi,Builtin.lenOf,hroom,hf,ha,hst]
theorem run_append_o (base:Nat) (t ty e:TypeId) (i:TypeInfo) (z:Value) (size bytes:Nat) (ht:P.underlying t=some (.slice e)) (hi:P.info? e=some i) (hz:i.zero=some z)
  (hsize:i.size=size) (hby:i.bytes=bytes) (hzs:z.cells.size=size) (hsz:0<size)
  (A:Option Addr) (n cp:Nat) (xs:List Value) (hown:OwnO w base e size A n cp xs)
  (B:Nat) (A2:Option Addr) (m c:Nat) (news:List Value) (hr:Reads w B size A2 m news) (h1:∀ u∈news,u.oneCell'=true)
  (h63:n+m<=maxLen) (hbytes:(n+m)*bytes<=140737488355328) (hbase:base<=w.heap.size):
  ∃ A' c' w',(Builtin.append_ #[t,t] ty #[.slice A n cp,.slice A2 m c]).run P w= .ok (.slice A' (n+m) c') w'/\OwnO w' base e size A' (n+m) c' (xs++news)/\w.grownBy w' (blockO A cp):=by
 subst hsize;subst hby
 have hsmall:n+m<=9223372036854775807:=by simp only [maxLen] at h63;omega
 have hxl:=hown.len
 have hlen:(xs++news).length=(n+m)*i.size:=by rw [List.length_append,hxl,hr.1,Nat.add_mul]
 have hncp:=hown.cap
 rcases Nat.eq_zero_or_pos m with rfl|hm
 ·have hn:news=[]:=List.eq_nil_of_length_eq_zero (by simpa using hr.1)
  subst hn
  refine ⟨A,cp,w,?_,by simpa using hown,World.grownBy.refl _ _⟩
  rcases hown with ⟨rfl,rfl,rfl⟩|⟨g,k,ps,rfl,hp,ho⟩
  ·exact run_append_empty w t ty e i ht hi A A2 c (by cases A2<;>simp)
  ·cases A2<;>simp [Builtin.append_,run_underlying ht,sizeOf,typeInfo,hi,Builtin.lenOf,Builtin.firstCells,storeCells,loadCells,loadCellsFrom,hncp]
 ·obtain ⟨ad,rfl,_,hnews⟩:=hr.2 hm
  have grown:∀ (old:Nat),old<n+m->∀ (row:Option Nat),
    OwnO (w.drew.alloc (.cells (xs.toArray++news.toArray++Builtin.zeroCells z.cells (grownCap w (n+m) old e - (n+m))) e)) base e i.size
     (some ⟨w.heap.size,0,none⟩) (n+m) (grownCap w (n+m) old e) (xs++news)/\
    w.grownBy (w.drew.alloc (.cells (xs.toArray++news.toArray++Builtin.zeroCells z.cells (grownCap w (n+m) old e - (n+m))) e)) row:=by
   intro old ho row;have hge:=grownCap_ge w (n+m) old e;have hcm:grownCap w (n+m) old e<=maxLen:=grownCap_le_maxLen w (n+m) old e h63
   refine ⟨.inr ⟨w.heap.size,0,[],by rw [Nat.zero_mul],by simp,?_⟩,⟨rfl,rfl,rfl,by simp,fun k hk _=>Below.heap_alloc w.drew _ k hk⟩⟩
   simp only [Nat.zero_add,List.nil_append]
   refine ⟨hlen,.inr ⟨w.heap.size,_,_,rfl,hbase,heap_alloc_new w.drew _,hge,hcm,?_,?_⟩⟩
   ·simp only [Array.size_append,List.size_toArray,size_zeroCells,hzs,hxl,hr.1,<-Nat.add_mul]
    congr 1
    omega
   ·simp only [Array.toList_append,List.append_assoc]
    rw [<-List.append_assoc,<-hlen];exact List.take_left
  by_cases hroom:n+m<=cp
  ·rcases hown with ⟨rfl,rfl,rfl⟩|⟨g,k,ps,rfl,hp,ho⟩
   ·omega
   ·rcases ho.2 with ⟨hv,_⟩|⟨g',cap,cur,hv,hbg,hg,hnc,hcm,hcs,htake⟩
    ·cases hv
    ·simp only [Value.slice.injEq,Option.some.injEq,Addr.mk.injEq,and_true,true_and] at hv
     obtain ⟨rfl,rfl⟩:=hv
     have hfit:(k+n)*i.size+news.length<=cur.size:=by rw [hr.1,hcs,<-Nat.add_mul];exact Nat.mul_le_mul_right _ (by omega)
     have hrun:=run_append_room_o (P:=P) w t ty e i ht hi g k n cp cur hg ad m c news hr.1 hnews h1 hroom hfit
     refine ⟨_,_,_,hrun,.inr ⟨g,k,ps,rfl,hp,?_,.inr ⟨g,_,_,rfl,hbg,setRow_heap w g cur _ e _ hg,by omega,hcm,?_,?_⟩⟩,⟨rfl,rfl,rfl,by simp,fun j _ hj=>setRow_other w g j _ (fun e=>hj ?_)⟩⟩
     ·rw [List.length_append,hp,hlen,Nat.add_mul k]
     ·simp only [List.size_toArray,List.length_append,List.length_take,List.length_drop,Array.length_toList]
      omega
     ·have e2:(ps++(xs++news)).length=(k+(n+m))*i.size:=by rw [List.length_append,hp,hlen,Nat.add_mul k]
      rw [htake,<-e2];generalize List.drop _ cur.toList=D
      rw [show ps++xs++news++D=(ps++(xs++news))++D from by simp only [List.append_assoc]]
      exact List.take_left
     ·rw [e];unfold blockO;rw [if_neg (by omega)];rfl
  ·cases A with
   |none=>
    rcases hown with ⟨rfl,rfl,rfl⟩|⟨g,k,ps,hA,_⟩
    ·have hrun:=run_append_nil (P:=P) w t ty e i z ht hi hz ad m c news hr.1 hnews (by omega) (by omega) (by have hb:=hbytes;simp only [Nat.zero_add] at hb;omega)
     have hgr:=grown 0 (by omega) (blockO none 0)
     simp only [Nat.zero_add,List.nil_append,Array.empty_append] at hgr ⊢;exact ⟨_,_,_,hrun,hgr.1,hgr.2⟩
    ·cases hA
   |some b=>
    have holds:∀ j u,xs[j]?=some u->w.cell? (b.add j)=some u:=by
     intro j u hu
     rcases hown with ⟨_,_,rfl⟩|⟨g,k,ps,hA,hp,ho⟩
     ·simp at hu
     ·injection hA with hA
      subst hA
      have e1:(⟨g,k*i.size,none⟩:Addr).add j=⟨g,k*i.size+j,none⟩:=by unfold Addr.add;split<;>simp_all
      have hj:j<xs.length:=(List.getElem?_eq_some_iff.1 hu).1
      rw [e1,ho.cellAt _ (by rw [Nat.add_mul,<-hxl];omega),List.getElem?_append_right (by omega),<-hu]
      congr 1
      omega
    have hrun:=run_append_grow (P:=P) w t ty e i z ht hi hz b n cp xs hxl holds ad m c news hr.1 hnews (by omega) (by omega) (growslice_fits (by omega) hbytes)
    have hgr:=grown cp (by omega) (blockO (some b) cp)
    exact ⟨_,_,_,hrun,hgr.1,hgr.2⟩
theorem wpListIn_append_o {F:Fence} {nn:Nat} {ops:Array Oper} {rest:List Oper} {o:Oper} {a:Act} {Q:Exit->Act->World->Prop} (hgd:o.guard=none) (s x:Operand) (t:TypeId)
  (ho:o.op= .call { callee:= .builtin .append,args:=#[s,x],argTypes:=#[t,t] })
  (base:Nat) (e:TypeId) (i:TypeInfo) (z:Value) (size bytes:Nat) (ht:P.underlying t=some (.slice e)) (hi:P.info? e=some i) (hz:i.zero=some z)
  (hsize:i.size=size) (hby:i.bytes=bytes) (hzs:z.cells.size=size) (hsz:0<size)
  (A:Option Addr) (n cp:Nat) (xs:List Value) (hs:a.eval s= .slice A n cp) (hown:OwnO w base e size A n cp xs)
  (B:Nat) (A2:Option Addr) (m c:Nat) (news:List Value) (hx:a.eval x= .slice A2 m c) (hr:Reads w B size A2 m news) (h1:∀ u∈news,u.oneCell'=true)
  (h63:n+m<=maxLen) (hbytes:(n+m)*bytes<=140737488355328) (hbase:base<=w.heap.size)
  (h:∀ A' c' w',OwnO w' base e size A' (n+m) c' (xs++news)->w.grownBy w' (blockO A cp)->wpListIn F nn P ops Q rest (a.put o.dst (.slice A' (n+m) c')) w'):wpListIn F nn P ops Q (o :: rest) a w:=by
 refine wpListIn_plain hgd fun K hK'=>?_
 obtain ⟨A',c',w',hrun,h2,h3⟩:=run_append_o (P:=P) w base t o.type e i z size bytes ht hi hz hsize hby hzs hsz A n cp xs hown B A2 m c news hr h1 h63 hbytes hbase;unfold Oper.wpIn
 refine ⟨?_,?_⟩
 ·simp [Oper.about,ho,resolve,Target.leads,Sem.run_pure]
 ·rw [Oper.semAt_plain F _ _ (by rw [ho];intro c hc';cases hc')]
  simp [execOp,ho,resolve,invoke,builtin,hs,hx,hrun,Result.andThen];exact hK' _ _ (h A' c' w' h2 h3)
end
end Slo
end
end
section
section
namespace Trn
open Go.RowKit Mem Civ Mom Img Rul Ahd Slo
def cmpM (a b:Int):Int:=max (min (a - b) 1) (-1)
theorem cmp_any (a b:Turn) (w:World) (ha: -9000000000000<=a.at_/\a.at_<=9000000000000) (hb: -9000000000000<=b.at_/\b.at_<=9000000000000):
  Calls prog 91 #[.agg a.cells.toArray,.agg b.cells.toArray] w fun e w'=>e= .returned (.int .i64 (cmpM a.at_ b.at_))/\Below w.heap.size w w':=by
 have hb2:=box2 w 133 133 a.cells.toArray b.cells.toArray;obtain ⟨a0,a1,a2,a3⟩:=a;obtain ⟨b0,b1,b2,b3⟩:=b;simp only [Turn.cells] at hb2 ha hb ⊢;obtain ⟨W,hW⟩:∃ W,(w.alloc (.cells #[.int .i64 a0,.int .i64 a1,.int .i64 a2,.string a3] 133)).alloc (.cells #[.int .i64 b0,.int .i64 b1,.int .i64 b2,.string b3] 133)=W:=⟨_,rfl⟩;rw [hW] at hb2;obtain ⟨k1,k2,hbb,hz⟩:=hb2;have c1:=k1.cell;have c2:=k2.cell;have HB:=hid hbb;have hq:cmpM a0 b0=max (min (a0 - b0) 1) (-1):=rfl;have HQ:=hid hq;clear k1 k2 hbb hq;obtain ⟨h1,h2⟩:=ha;obtain ⟨h3,h4⟩:=hb;go_enter func91,ntmps91
 go_wp2_with fail
 go_ret;exact ⟨rfl,HB.out⟩
theorem swap_o (pv:List Value) (p q:List Turn) (a b:Turn) {o j:Nat} (ho:pv.length=o) (hj:p.length=j):
  ((((((((pv++(p++a :: b :: q).flatMap Turn.cells).set (o+(j+1)*4) (.int .i64 a.at_)).set (o+(j+1)*4+1) (.int .i64 a.ref)).set (o+(j+1)*4+2) (.int .i64 a.save)).set (o+(j+1)*4+3) (.string a.letter)).set (o+j*4) (.int .i64 b.at_)).set (o+j*4+1) (.int .i64 b.ref)).set (o+j*4+2) (.int .i64 b.save)).set (o+j*4+3) (.string b.letter)=pv++(p++b :: a :: q).flatMap Turn.cells:=by
 have h:=swap_cells p q a b hj
 have e:∀ (i:Nat) (u:Value) (M:List Value),(pv++M).set (o+i) u=pv++M.set i u:=fun i u M=>by
  rw [List.set_append_right _ _ (by omega),ho];congr 2;omega
 rw [<-h];simp only [Nat.add_assoc,e]
theorem insertO_any (pv:List Value) (ts:List Turn) (g o k0 c base:Nat) (w:World) (hp:pv.length=o/\o=k0*4) (hbd:∀ t∈ts,-9000000000000<=t.at_/\t.at_<=9000000000000) (h:w.ownsRow base 133 4 (.slice (some ⟨g,0,none⟩) (k0+ts.length) (k0+c)) (k0+ts.length) (pv++ts.flatMap Turn.cells)) (hn:ts.length<=1000) (h0:0<ts.length):
  Calls prog 202 #[.slice (some ⟨g,o,none⟩) ts.length c,.int .i64 0,.int .i64 ts.length,.func (Fn.func 91) #[] #[]] w fun e w'=>
   e= .returned (.tuple #[])/\w'.ownsRow base 133 4 (.slice (some ⟨g,0,none⟩) (k0+ts.length) (k0+c)) (k0+ts.length) (pv++(sortT ts).flatMap Turn.cells)/\w.grownBy w' (some g):=by
 have H:=hid h;have Hp:=hid hp;have Hbd:=hid hbd;clear h hp hbd;go_enter func202,ntmps202;go_wp2
 go_loopw [8] (fun i wr=>∃ k:Nat,1<=k/\k<=ts.length/\i= .int .i64 k/\wr.ownsRow base 133 4 (.slice (some ⟨g,0,none⟩) (k0+ts.length) (k0+c)) (k0+ts.length) (pv++(sortT (ts.take k)++ts.drop k).flatMap Turn.cells)/\w.grownBy wr (some g)) (fun i _=>ts.length - (intOf i).toNat)
 case atStart=>exact ⟨1,Nat.le_refl _,h0,rfl,by rw [sortT_one];exact H.out,World.grownBy.refl _ _⟩
 case round=>
  obtain ⟨k,hk1,hk,rfl,hown,hg⟩:=hrel;have HO:=hid hown;have HG:=hid hg;clear hown hg
  by_cases hkn:k<ts.length
  ·have hsl:(sortT (ts.take k)).length=k:=by rw [sortT_length,List.length_take];omega
   have hsn:sortT (ts.take (k+1))=insT (sortT (ts.take k)) ts[k]:=by rw [List.take_succ_eq_append_getElem hkn,sortT_snoc]
   have hdr:=List.drop_eq_getElem_cons hkn;have Hsl:=hid hsl;have Hsn:=hid hsn;have Hdr:=hid hdr;clear hsl hsn hdr;obtain ⟨wo,rfl⟩:∃ wo:World,wo=wr:=⟨_,rfl⟩;go_wp2
   go_loopw [9] (fun i wi=>∃ j:Nat,j<=k/\i= .int .i64 j/\posT ts[k] (sortT (ts.take k)) k=posT ts[k] (sortT (ts.take k)) j/\wi.ownsRow base 133 4 (.slice (some ⟨g,0,none⟩) (k0+ts.length) (k0+c)) (k0+ts.length) (pv++(putT ts[k] (sortT (ts.take k)) j++ts.drop (k+1)).flatMap Turn.cells)/\w.grownBy wi (some g)) (fun i _=>(intOf i).toNat)
   case atStart=>
    refine ⟨k,Nat.le_refl _,rfl,rfl,?_,HG.out⟩
    have e:putT ts[k] (sortT (ts.take k)) k++ts.drop (k+1)=sortT (ts.take k)++ts.drop k:=by
     rw [Hdr.out,putT,List.take_of_length_le (by rw [Hsl.out];exact Nat.le_refl _),List.drop_of_length_le (by rw [Hsl.out];exact Nat.le_refl _)]
     simp only [List.append_assoc,List.cons_append,List.nil_append]
    rw [e];exact HO.out
   case round=>
    clear HO HG;obtain ⟨j,hj,rfl,hpos,hown,hg⟩:=hrel;have Hpos:=hid hpos;have HO:=hid hown;have HG:=hid hg;clear hpos hown hg;generalize hS:sortT (ts.take k)=S at*;have HS:=hid hS;clear hS
    have ad:∀ n:Nat,Addr.add ⟨g,o,none⟩ n=⟨g,o+n,none⟩:=fun n=>by unfold Addr.add;split<;>simp_all
    rcases j with _|jj
    ·have hgt:decide ((0:Int)<((0:Nat):Int))=false:=rfl
     have hfp:sortT (ts.take (k+1))=putT ts[k] S 0:=by rw [Hsn.out,insT,Hsl.out,Hpos.out];rfl
     have HFP:=hid hfp;clear hfp;have inst:Nonempty (Qt.In (Below wr.heap.size wr)):=⟨⟨_,Below.refl _ _⟩⟩
     go_wp2_with fail
     refine Qt.wp_region_cls (Below wr.heap.size wr) (by kernel_rfl) (by kernel_rfl) (below_dr (n:=1) (Below.refl _ _)) ?_
     repeat (go_big_quiet_step ((go_at_call 91;fail)))
     refine wpQuiet_nil ?_
     rintro wq ⟨⟨w9,hq⟩,e9⟩
     have hq2:Below wr.heap.size wr wq:=by rw [e9];exact hq
     have HOq:=hid (HO.out.kept (gr_of_below hq2) (.inr (by simp [Value.ownBlock])))
     have HGq:=hid (gr_none HG.out (gr_of_below hq2));clear hq e9 hq2 inst;go_wp2
     refine ⟨⟨k+1,by omega,by omega,by go_num,?_,HGq.out⟩,by simp [intOf];omega⟩
     rw [HFP.out];exact HOq.out
    ·have hjS:jj<S.length:=by rw [Hsl.out];omega
     have hx:∀ i,i<4->wr.cell? ⟨g,o+(jj+1)*4+i,none⟩=ts[k].cells[i]?:=fun i hi=>by
      rw [HO.out.cellAt _ (by have:=Hp.out;omega),List.getElem?_append_right (by have:=Hp.out;omega),show o+(jj+1)*4+i - pv.length=(jj+1)*4+i from by have:=Hp.out;omega,flat_get Turn.cells 4 (fun _=>rfl) _ (jj+1) i hi,putT_at (by omega)];rfl
     have he:∀ i,i<4->wr.cell? ⟨g,o+jj*4+i,none⟩=S[jj].cells[i]?:=fun i hi=>by
      rw [HO.out.cellAt _ (by have:=Hp.out;omega),List.getElem?_append_right (by have:=Hp.out;omega),show o+jj*4+i - pv.length=jj*4+i from by have:=Hp.out;omega,flat_get Turn.cells 4 (fun _=>rfl) _ jj i hi,putT_ahead (by omega),List.getElem?_eq_getElem hjS];rfl
     have hgl:=(HO.out.lt g rfl).2;have hbx:=Hbd.out ts[k] (List.getElem_mem hkn)
     have hbe:=Hbd.out S[jj] (by have:=mem_sortT (l:=ts.take k) (t:=S[jj]) (by rw [HS.out];exact List.getElem_mem hjS);exact List.mem_of_mem_take this)
     have hpg:=fun (h:ts[k].at_<S[jj].at_)=>posT_go (x:=ts[k]) (List.getElem?_eq_getElem hjS) h
     have hps:=fun (h:¬ ts[k].at_<S[jj].at_)=>posT_stay (x:=ts[k]) (List.getElem?_eq_getElem hjS) h
     have Hpg:=hid hpg;have Hps:=hid hps;have hsp:=putT_split (x:=ts[k]) hjS (ts.drop (k+1));have Hsp:=hid hsp;clear hpg hps hsp;generalize hxx:ts[k]=x at*;have Hxx:=hid hxx;clear hxx;generalize hee:S[jj]=e at*;have Hee:=hid hee;clear hee;obtain ⟨x0,x1,x2,x3⟩:=x;obtain ⟨e0,e1,e2,e3⟩:=e;have HC:Hid (∀ z,Below wr.heap.size wr z->Calls prog 91 #[.agg #[.int .i64 x0,.int .i64 x1,.int .i64 x2,.string x3],.agg #[.int .i64 e0,.int .i64 e1,.int .i64 e2,.string e3]] z fun e z'=>e= .returned (.int .i64 (cmpM x0 e0))/\Below wr.heap.size wr z'):=fun z h=>(cmp_any ⟨x0,x1,x2,x3⟩ ⟨e0,e1,e2,e3⟩ z hbx hbe).mono fun e z' ⟨he,hb⟩=>⟨he,h.trans (hb.mono h.size)⟩;have inst:Nonempty (Qt.In (Below wr.heap.size wr)):=⟨⟨_,Below.refl _ _⟩⟩;clear hbx hbe
     have zx0:∀ z:Qt.In (Below wr.heap.size wr),z.w.cell? ⟨g,o+(jj+1)*4,none⟩=some (.int .i64 x0):=fun z=>(z.h.cell (p:=⟨g,o+(jj+1)*4,none⟩) hgl).trans (hx 0 (by omega))
     have zx1:∀ z:Qt.In (Below wr.heap.size wr),z.w.cell? ⟨g,o+(jj+1)*4+1,none⟩=some (.int .i64 x1):=fun z=>(z.h.cell (p:=⟨g,o+(jj+1)*4+1,none⟩) hgl).trans (hx 1 (by omega))
     have zx2:∀ z:Qt.In (Below wr.heap.size wr),z.w.cell? ⟨g,o+(jj+1)*4+2,none⟩=some (.int .i64 x2):=fun z=>(z.h.cell (p:=⟨g,o+(jj+1)*4+2,none⟩) hgl).trans (hx 2 (by omega))
     have zx3:∀ z:Qt.In (Below wr.heap.size wr),z.w.cell? ⟨g,o+(jj+1)*4+3,none⟩=some (.string x3):=fun z=>(z.h.cell (p:=⟨g,o+(jj+1)*4+3,none⟩) hgl).trans (hx 3 (by omega))
     have ze0:∀ z:Qt.In (Below wr.heap.size wr),z.w.cell? ⟨g,o+jj*4,none⟩=some (.int .i64 e0):=fun z=>(z.h.cell (p:=⟨g,o+jj*4,none⟩) hgl).trans (he 0 (by omega))
     have ze1:∀ z:Qt.In (Below wr.heap.size wr),z.w.cell? ⟨g,o+jj*4+1,none⟩=some (.int .i64 e1):=fun z=>(z.h.cell (p:=⟨g,o+jj*4+1,none⟩) hgl).trans (he 1 (by omega))
     have ze2:∀ z:Qt.In (Below wr.heap.size wr),z.w.cell? ⟨g,o+jj*4+2,none⟩=some (.int .i64 e2):=fun z=>(z.h.cell (p:=⟨g,o+jj*4+2,none⟩) hgl).trans (he 2 (by omega))
     have ze3:∀ z:Qt.In (Below wr.heap.size wr),z.w.cell? ⟨g,o+jj*4+3,none⟩=some (.string e3):=fun z=>(z.h.cell (p:=⟨g,o+jj*4+3,none⟩) hgl).trans (he 3 (by omega))
     have Hx:=hid hx;have He:=hid he;clear hx he
     have hw1:IntKind.i64.wrap (((jj+1:Nat):Int) - 1)=(jj:Int):=by rw [show ((jj+1:Nat):Int) - 1=jj by omega];exact IntWalk.i64_in _ (by omega)
     have hw2:IntKind.i64.wrap (jj:Int)=jj:=IntWalk.i64_in _ (by omega)
     have hgt:decide ((0:Int)<((jj+1:Nat):Int))=true:=by simp<;>omega
     go_wp2_with fail
     refine Qt.wp_region_cls (Below wr.heap.size wr) (by kernel_rfl) (by kernel_rfl) (below_dr (n:=1) (Below.refl _ _)) ?_
     repeat (go_big_quiet_step ((go_at_call 91;exact Qt.quiet_cls (HC.out _ (Qt.In.h _)))))
     refine wpQuiet_nil ?_
     rintro wq ⟨⟨w9,hq⟩,e9⟩
     have hq2:Below wr.heap.size wr wq:=by rw [e9];exact hq
     have HW:=hid hq2
     have HOq:=hid (HO.out.kept (gr_of_below hq2) (.inr (by simp [Value.ownBlock])))
     have HGq:=hid (gr_none HG.out (gr_of_below hq2));clear hq e9 hq2 zx0 zx1 zx2 zx3 ze0 ze1 ze2 ze3 inst
     by_cases hlt:x0<e0
     ·have hcn:cmpM x0 e0<0:=by unfold cmpM;omega
      have hp:=Hpg.out hlt;have hpos2:=Hpos.out.trans hp;have Hpos2:=hid hpos2;clear hp hpos2 Hpos Hpg Hps
      have qx0:wq.cell? ⟨g,o+(jj+1)*4,none⟩=some (.int .i64 x0):=(HW.out.cell (p:=⟨g,o+(jj+1)*4,none⟩) hgl).trans (Hx.out 0 (by omega))
      have qx1:wq.cell? ⟨g,o+(jj+1)*4+1,none⟩=some (.int .i64 x1):=(HW.out.cell (p:=⟨g,o+(jj+1)*4+1,none⟩) hgl).trans (Hx.out 1 (by omega))
      have qx2:wq.cell? ⟨g,o+(jj+1)*4+2,none⟩=some (.int .i64 x2):=(HW.out.cell (p:=⟨g,o+(jj+1)*4+2,none⟩) hgl).trans (Hx.out 2 (by omega))
      have qx3:wq.cell? ⟨g,o+(jj+1)*4+3,none⟩=some (.string x3):=(HW.out.cell (p:=⟨g,o+(jj+1)*4+3,none⟩) hgl).trans (Hx.out 3 (by omega))
      have qe0:wq.cell? ⟨g,o+jj*4,none⟩=some (.int .i64 e0):=(HW.out.cell (p:=⟨g,o+jj*4,none⟩) hgl).trans (He.out 0 (by omega))
      have qe1:wq.cell? ⟨g,o+jj*4+1,none⟩=some (.int .i64 e1):=(HW.out.cell (p:=⟨g,o+jj*4+1,none⟩) hgl).trans (He.out 1 (by omega))
      have qe2:wq.cell? ⟨g,o+jj*4+2,none⟩=some (.int .i64 e2):=(HW.out.cell (p:=⟨g,o+jj*4+2,none⟩) hgl).trans (He.out 2 (by omega))
      have qe3:wq.cell? ⟨g,o+jj*4+3,none⟩=some (.string e3):=(HW.out.cell (p:=⟨g,o+jj*4+3,none⟩) hgl).trans (He.out 3 (by omega))
      have fq:=fun i=>HOq.out.frozenAt i
      go_wp2_with fail
      refine wp_region_noPanic ?_
      go_region
      clear qx0 qx1 qx2 qx3 qe0 qe1 qe2 qe3 fq;have hown:=HOq.out;rw [Hsp.out.1] at hown;have s1:=hown.stored (o+(jj+1)*4) (.int .i64 e0);have s2:=s1.1.stored (o+(jj+1)*4+1) (.int .i64 e1);have s3:=s2.1.stored (o+(jj+1)*4+2) (.int .i64 e2);have s4:=s3.1.stored (o+(jj+1)*4+3) (.string e3);have s5:=s4.1.stored (o+jj*4) (.int .i64 x0);have s6:=s5.1.stored (o+jj*4+1) (.int .i64 x1);have s7:=s6.1.stored (o+jj*4+2) (.int .i64 x2);have s8:=s7.1.stored (o+jj*4+3) (.string x3)
      have hsw:=swap_o pv (S.take jj) (S.drop (jj+1)++ts.drop (k+1)) ⟨e0,e1,e2,e3⟩ ⟨x0,x1,x2,x3⟩ (j:=jj) Hp.out.1 (by rw [List.length_take];omega)
      have hgr:=gr_trans HGq.out (gr_trans s1.2 (gr_trans s2.2 (gr_trans s3.2 (gr_trans s4.2 (gr_trans s5.2 (gr_trans s6.2 (gr_trans s7.2 s8.2)))))));have hfin:=own_eq s8.1 (hsw.trans (congrArg (fun l=>pv++List.flatMap Turn.cells l) Hsp.out.2.symm));have hfd:=own_dr hfin;have hgd:=gr_dr hgr;have HF:=hid (And.intro hfd hgd);clear hfin hgr hsw s1 s2 s3 s4 s5 s6 s7 s8 hown hfd hgd;generalize World.drew _=W9 at*
      refine NoPanic.normal ?_
      go_wp2
      refine ⟨⟨jj,by omega,by go_num,Hpos2.out,HF.out.1,HF.out.2⟩,by simp [intOf];try omega⟩
     ·have hcn:¬ cmpM x0 e0<0:=by unfold cmpM;omega
      have hfp:sortT (ts.take (k+1))=putT ⟨x0,x1,x2,x3⟩ S (jj+1):=by rw [Hsn.out,insT,Hsl.out,Hpos.out,Hps.out (by omega)]
      have HFP:=hid hfp;clear hfp Hpos Hpg Hps HW;go_wp2
      refine ⟨⟨k+1,by omega,by omega,by go_num,?_,HGq.out⟩,by simp [intOf];omega⟩
      rw [HFP.out];exact HOq.out
  ·obtain rfl:k=ts.length:=by omega
   have hfin:sortT (ts.take ts.length)++ts.drop ts.length=sortT ts:=by rw [List.take_length,List.drop_length,List.append_nil]
   rw [hfin] at HO;clear hfin;go_wp2
   go_end0
   exact ⟨rfl,HO.out,HG.out⟩
theorem insertO_none (A:Option Addr) (n c:Nat) (a:Int) (w:World) (h:((n:Nat):Int)<=a+1) (ha:0<=a/\a<=100):
  Calls prog 202 #[.slice A n c,.int .i64 a,.int .i64 n,.func (Fn.func 91) #[] #[]] w fun e w'=>
   e= .returned (.tuple #[])/\w'=w:=by
 obtain ⟨ha1,ha2⟩:=ha
 have hb:decide (a+1<((n:Nat):Int))=false:=decide_eq_false (by omega)
 clear h;go_enter func202,ntmps202;go_wp2
 go_loopw [8] (fun i wr=>i= .int .i64 (a+1)/\wr=w) (fun _ _=>0)
 case atStart=>exact ⟨rfl,rfl⟩
 case round=>
  obtain ⟨rfl,rfl⟩:=hrel;go_wp2
  go_end0
  exact ⟨rfl,rfl⟩
def SortO (ts:List Turn) (A:Option Addr) (c base:Nat) (w:World) (e:Ending) (w':World):Prop:=
 e= .returned (.tuple #[])/\OwnO w' base 133 4 A ts.length c ((sortT ts).flatMap Turn.cells)/\w.grownBy w' (blockO A c)
theorem sortT_short {ts:List Turn} (h:ts.length<=1):sortT ts=ts:=by
 have:=sortT_one ts;rw [List.take_of_length_le h,List.drop_of_length_le h,List.append_nil] at this;exact this
theorem insertO_sort (ts:List Turn) (A:Option Addr) (c base:Nat) (w:World) (h:OwnO w base 133 4 A ts.length c (ts.flatMap Turn.cells)) (hn:ts.length<=20) (hbd:∀ t∈ts,-9000000000000<=t.at_/\t.at_<=9000000000000):
  Calls prog 202 #[.slice A ts.length c,.int .i64 0,.int .i64 ts.length,.func (Fn.func 91) #[] #[]] w (SortO ts A c base w):=by
 by_cases h0:ts.length=0
 ·exact (insertO_none A ts.length c 0 w (by omega) (by omega)).mono fun e w' ⟨he,hw⟩=>⟨he,by rw [hw,sortT_short (by omega)];exact h,by rw [hw];exact World.grownBy.refl _ _⟩
 ·rcases h with ⟨h1,_⟩|⟨g,k,ps,rfl,hp,ho⟩
  ·omega
  ·have h4:=insertO_any ps ts g (k*4) k c base w ⟨hp,rfl⟩ hbd ho (by omega) (by omega)
   have hc:c≠0:=by
    have:=OwnO.cap (w:=w) (.inr ⟨g,k,ps,rfl,hp,ho⟩);omega
   exact h4.mono fun e w' ⟨he,h5,h6⟩=>⟨he,.inr ⟨g,k,ps,rfl,hp,h5⟩,by unfold blockO;rw [if_neg hc];exact h6⟩
theorem stableO_any (ts:List Turn) (A:Option Addr) (c base:Nat) (w:World) (h:OwnO w base 133 4 A ts.length c (ts.flatMap Turn.cells)) (hn:ts.length<=20) (hbd:∀ t∈ts,-9000000000000<=t.at_/\t.at_<=9000000000000):
  Calls prog 147 #[.slice A ts.length c,.int .i64 ts.length,.func (Fn.func 91) #[] #[]] w (SortO ts A c base w):=by
 have hi:=insertO_sort ts A c base w h hn hbd
 have hs:=fun (h2:ts.length=20) z=>insertO_none A ts.length c 20 z (by omega) (by omega)
 clear h hbd;go_enter func147,ntmps147;go_wp2
 by_cases h2:ts.length=20
 ·have hc:((ts.length:Nat):Int)=20:=by omega
  have hs2:=hs h2;obtain ⟨N,hN⟩:∃ N:Int,((ts.length:Nat):Int)=N:=⟨_,rfl⟩;rw [hN] at hi hs2 ⊢
  have hN20:N=20:=by omega
  have hi2:Calls prog 202 #[.slice A ts.length c,.int .i64 0,.int .i64 20,.func (Fn.func 91) #[] #[]] w (SortO ts A c base w):=by rw [<-hN20];exact hi
  have HI:=hid hi2;have HS:=hid hs2
  have hb1:decide ((20:Int)<=N)=true:=decide_eq_true (by omega)
  have hb2:decide ((40:Int)<=N)=false:=decide_eq_false (by omega)
  have hb3:decide ((20:Int)<N)=false:=decide_eq_false (by omega)
  clear hi hs hs2 hi2 hc hN h2 hN20
  go_loopw [7,8] (fun a b wr=>(a= .int .i64 0/\b= .int .i64 20/\wr=w)\/(a= .int .i64 20/\b= .int .i64 40/\SortO ts A c base w (.returned (.tuple #[])) wr)) (fun a _ _=>(20 - intOf a).toNat)
  case atStart=>exact .inl ⟨rfl,rfl,rfl⟩
  case round=>
   rcases hrel with ⟨rfl,rfl,rfl⟩|⟨rfl,rfl,hS⟩
   ·go_wp2_with (go_at_call 202;refine HI.out.mono ?_;rintro e w1 ⟨rfl,ho,hg⟩;have HO:=hid (And.intro ho hg);clear ho hg)
    exact ⟨.inr ⟨rfl,rfl,rfl,HO.out.1,HO.out.2⟩,by simp [intOf]⟩
   ·have HSo:=hid hS
    clear hS
    go_wp2_with (go_at_call 202;refine (HS.out _).mono ?_;rintro e w1 ⟨rfl,rfl⟩)
    go_loopw [6] (fun a wr=>a= .int .i64 20/\wr=w1) (fun _ _=>0)
    case atStart=>exact ⟨rfl,rfl⟩
    case round=>
     obtain ⟨rfl,rfl⟩:=hrel;go_wp2
     go_end0
     exact HSo.out
 ·have HI:=hid hi
  clear hs hi
  go_loopw [7,8] (fun a b wr=>a= .int .i64 0/\b= .int .i64 20/\wr=w) (fun _ _ _=>0)
  case atStart=>exact ⟨rfl,rfl,rfl⟩
  case round=>
   obtain ⟨rfl,rfl,rfl⟩:=hrel
   go_wp2_with (go_at_call 202;refine HI.out.mono ?_;rintro e w1 ⟨rfl,ho,hg⟩;have HO:=hid (And.intro ho hg);clear ho hg)
   go_loopw [6] (fun a wr=>a= .int .i64 20/\wr=w1) (fun _ _=>0)
   case atStart=>exact ⟨rfl,rfl⟩
   case round=>
    obtain ⟨rfl,rfl⟩:=hrel;go_wp2
    go_end0
    exact ⟨rfl,HO.out.1,HO.out.2⟩
theorem sortO_any (ts:List Turn) (A:Option Addr) (c base:Nat) (w:World) (h:OwnO w base 133 4 A ts.length c (ts.flatMap Turn.cells)) (hn:ts.length<=20) (hbd:∀ t∈ts,-9000000000000<=t.at_/\t.at_<=9000000000000):
  Calls prog 90 #[.slice A ts.length c,.func (Fn.func 91) #[] #[]] w (SortO ts A c base w):=by
 have Hi:=hid (stableO_any ts A c base w h hn hbd);clear h hbd;go_enter func90,ntmps90
 go_wp2_with (go_at_call 147;refine Hi.out.mono ?_;rintro e w1 ⟨rfl,ho,hg⟩;have HO:=hid (And.intro ho hg);clear ho hg)
 go_end0
 exact ⟨rfl,HO.out.1,HO.out.2⟩
end Trn
end
end
end Go.Proofs.YtadamccojdocbaaGreatDoor
