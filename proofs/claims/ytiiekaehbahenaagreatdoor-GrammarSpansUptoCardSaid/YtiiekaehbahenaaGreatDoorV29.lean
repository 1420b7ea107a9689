/-
  Contracts of the code that the law reaches, and plain laws. Conditions: as each says.
-/
import Derived.Test.YtiiekaehbahenaaGreatDoorChecked
import Derived.Test.YtiiekaehbahenaaGreatDoorV00
import Derived.Test.YtiiekaehbahenaaGreatDoorV28
import Derived.ProofKit
import Derived.OpenShut
import Derived.Handy
import Derived.WalkLawsBesides
import Derived.Lib.Hide
import Derived.BigQuiet
import Derived.Deep.QuietTactic
set_option linter.all false
set_option maxHeartbeats 40000000
set_option maxRecDepth 100000
namespace Go.Proofs.YtiiekaehbahenaaGreatDoor
open Lib (hid)
open Tryz
section
namespace RefZ
open Go.RowKit Mem Dig
def ints (ds:List Int):List Value:=ds.map (Value.int .i64)
theorem ints_length (ds:List Int):(ints ds).length=ds.length:=by simp [ints]
structure Sl (w:World) (A:Option Addr) (n c:Nat) (ds:List Int):Prop where
 rd:Reads w w.heap.size 1 A n (ints ds)
 len:ds.length=n
 cap:n<=c
 capm:c<=maxLen
theorem Sl.below {w w':World} {A:Option Addr} {n c:Nat} {ds:List Int} (h:Sl w A n c ds) (hb:Below w.heap.size w w'):Sl w' A n c ds:=
 ⟨(h.rd.below hb).more hb.size,h.len,h.cap,h.capm⟩
theorem Sl.cell {w:World} {A:Option Addr} {n c:Nat} {ds:List Int} (h:Sl w A n c ds) {k:Nat} (hk:k<n):∃ ad,A=some ad/\w.cell? (ad.add k)=some (.int .i64 (dg ds k)):=by
 obtain ⟨ad,u,rfl,_,hx,hc⟩:=h.rd.at_ hk
 refine ⟨ad,rfl,?_⟩
 rw [hc];have hl:=h.len
 have:=dg_get (ds:=ds) (n:=k) (by omega)
 simp [ints,List.getElem?_map,this] at hx
 rw [<-hx]
theorem Sl.take {w:World} {A:Option Addr} {n c:Nat} {ds:List Int} (h:Sl w A n c ds) {k:Nat} (hk:k<=n):Sl w A k c (ds.take k):=by
 refine ⟨⟨by rw [ints_length,List.length_take,h.len];omega,fun h0=>?_⟩,by rw [List.length_take,h.len];omega,Nat.le_trans hk h.cap,h.capm⟩
 obtain ⟨ad,e,hb,hc⟩:=h.rd.2 (by omega)
 refine ⟨ad,e,hb,fun j u hu=>hc j u ?_⟩
 have hj:j<k:=by
  have:=(List.getElem?_eq_some_iff.1 hu).1
  rw [ints_length,List.length_take] at this;omega
 rw [<-hu];simp [ints,hj]
theorem Sl.nil_ (w:World):Sl w none 0 0 []:=⟨Reads.none_,rfl,Nat.le_refl _,by unfold maxLen;omega⟩
theorem Sl.alloc {w:World} {A:Option Addr} {n c:Nat} {ds:List Int} (h:Sl w A n c ds) (o:Obj):Sl (w.alloc o) A n c ds:=h.below ((Below.refl _ _).alloc (Nat.le_refl _) o)
theorem Sl.set {w:World} {A:Option Addr} {n c:Nat} {ds:List Int} (h:Sl w A n c ds) {p:Addr} {u:Value} (hp:w.cell? p=some u) (hu:∀ k,u≠.int .i64 k) (x:Value):Sl (w.setCell p x) A n c ds:=by
 refine ⟨⟨h.rd.1,fun h0=>?_⟩,h.len,h.cap,h.capm⟩
 obtain ⟨ad,e,hb,hc⟩:=h.rd.2 h0
 refine ⟨ad,e,by simpa [World.setCell] using hb,fun j v hv=>?_⟩
 rw [World.cell?_setCell_other w p (ad.add j) x,hc j v hv]
 intro e2;have h1:=hc j v hv;rw [<-e2,hp] at h1
 simp [ints,List.getElem?_map] at hv
 obtain ⟨d,_,rfl⟩:=hv
 exact hu d (by injection h1)
structure ZD (w:World) (neg:Bool) (A:Option Addr) (n c:Nat) (ds:List Int) (z:Int) (L:Nat):Prop where
 sl:Sl w A n c ds
 canon:Canon ds
 val:z=sg neg*dval ds
 sgn:ds=[]->neg=false
 le:n<=L
def IsZ (w:World) (v:Value) (z:Int) (L:Nat):Prop:=∃ (neg:Bool) (A:Option Addr) (n c:Nat) (ds:List Int),v= .agg #[.bool neg,.slice A n c]/\ZD w neg A n c ds z L
def RetZ (w:World) (z:Int) (L:Nat) (e:Ending) (w':World):Prop:=∃ v,e= .returned v/\IsZ w' v z L/\Below w.heap.size w w'
theorem tidy_any (neg:Bool) (A:Option Addr) (n c:Nat) (ds:List Int) (w:World) (hd:Dig ds) (h:Sl w A n c ds):
  Calls prog 67 #[.bool neg,.slice A n c] w (RetZ w (sg neg*dval ds) n):=by
 have hc:=h.cap;have hm:=h.capm;unfold maxLen at hm;go_enter func67,ntmps67;go_wp2
 go_loop [5] (fun t=>∃ k:Nat,k<=n/\t= .int .i64 k/\dval (ds.take k)=dval ds) (fun t=>(intOf t).toNat)
 case atStart=>exact ⟨n,Nat.le_refl _,rfl,dval_take_all (by rw [h.len];exact Nat.le_refl _)⟩
 case round=>
  obtain ⟨k,hk,rfl,hv⟩:=hrel;have Hv:=hid hv;clear hv;have H:=hid h;clear h
  by_cases hk0:0<k
  ·obtain ⟨ad,rfl,hcell⟩:=(H.out.alloc (.cells #[.bool false,.slice none 0 0] 70)).cell (k:=k - 1) (by omega)
   cases hz:(dg ds (k - 1) == 0)
   ·have hkz:((k:Int) == 0)=false:=by simp;omega
    go_wp2
    refine bodyPost_ret (v:= .agg #[.bool neg,.slice (some ad) k c]) (by simp [results,Tryz.results67,go_sem]) rfl ?_
    exact ⟨_,rfl,⟨_,_,_,_,_,rfl,(H.out.take hk).alloc _,canon_take hd (by rw [H.out.len];exact hk) (.inr (by simpa using hz)),by rw [Hv.out],fun e=>by
     have:=H.out.len
     have e1:(ds.take k).length=0:=by rw [e];rfl
     rw [List.length_take] at e1
     omega,hk⟩,(Below.refl _ _).alloc (Nat.le_refl _) _⟩
   ·go_wp2
    go_round
    case rel=>exact ⟨k - 1,by omega,by go_num,by
     have:=dval_take_succ ds (k - 1)
     rw [show k - 1+1=k by omega,Hv.out] at this
     have hz':dg ds (k - 1)=0:=by simpa using hz
     rw [hz'] at this
     omega⟩
    case measure=>simp [intOf];omega
  ·obtain rfl:k=0:=by omega
   go_wp2
   refine bodyPost_ret (v:= .agg #[.bool false,.slice none 0 0]) (by simp [results,Tryz.results67,go_sem]) rfl ?_
   exact ⟨_,rfl,⟨_,_,_,_,_,rfl,Sl.nil_ _,Canon.nil,by rw [<-Hv.out];simp [dval_nil],fun _=>rfl,Nat.zero_le _⟩,(Below.refl _ _).alloc (Nat.le_refl _) _⟩
theorem Sl.of_own {w:World} {base:Nat} {v:Value} {ds:List Int} (h:w.ownsRow base 3 1 v ds.length (ints ds)):∃ A c,v= .slice A ds.length c/\Sl w A ds.length c ds:=by
 have h0:=h
 rcases h.2 with ⟨rfl,hz⟩|⟨g,cap,cur,rfl,hb,hg,hn,hm,_,_⟩
 ·have:ds=[]:=List.eq_nil_of_length_eq_zero hz
  subst this;exact ⟨none,0,rfl,Sl.nil_ _⟩
 ·exact ⟨_,_,rfl,Reads.of_own h0,rfl,hn,hm⟩
theorem Tryz.intInfo:(prog.info? 3).map (fun i=>(i.zero,i.size,i.bytes))=some (some (.int .i64 0),1,8):=by kernel_rfl
theorem own_snoc' {w1:World} {b:Nat} {ds:List Int} {d:Int} {v':Value} (h:w1.ownsRow b 3 1 v' (ds.length+1) (ints ds++(#[Value.int .i64 d]:Array Value).toList)):w1.ownsRow b 3 1 v' (ds++[d]).length (ints (ds++[d])):=by
 simpa [ints] using h
theorem res_cells {w w2:World} (hb:Below (w.heap.size+1) (w.alloc (.cells #[.bool false,.slice none 0 0] 70)) w2):
  w2.cell? ⟨w.heap.size,0,none⟩=some (.bool false)/\w2.cell? ⟨w.heap.size,1,none⟩=some (.slice none 0 0)/\w2.frozen? ⟨w.heap.size,0,none⟩=false/\w2.frozen? ⟨w.heap.size,1,none⟩=false:=by
 have h:Blk w2 w.heap.size 70 #[.bool false,.slice none 0 0]:=(Blk.new w _ _).below hb (by omega)
 exact ⟨h.cell 0,h.cell 1,h.frozen 0,h.frozen 1⟩
theorem ZD.below {w w':World} {neg:Bool} {A:Option Addr} {n c:Nat} {ds:List Int} {z:Int} {L:Nat} (h:ZD w neg A n c ds z L) (hb:Below w.heap.size w w'):ZD w' neg A n c ds z L:=⟨h.sl.below hb,h.canon,h.val,h.sgn,h.le⟩
theorem ZD.more {w:World} {neg:Bool} {A:Option Addr} {n c:Nat} {ds:List Int} {z:Int} {L L':Nat} (h:ZD w neg A n c ds z L) (hl:L<=L'):ZD w neg A n c ds z L':=⟨h.sl,h.canon,h.val,h.sgn,Nat.le_trans h.le hl⟩
theorem ZD.stored {w:World} {neg:Bool} {A:Option Addr} {n c:Nat} {ds:List Int} {z:Int} {L b:Nat} (h:ZD w neg A n c ds z L) (g0:w.cell? ⟨b,0,none⟩=some (.bool false)) (g1:w.cell? ⟨b,1,none⟩=some (.slice none 0 0)) (x y:Value):
  ZD ((w.setCell ⟨b,0,none⟩ x).setCell ⟨b,1,none⟩ y) neg A n c ds z L:=
 ⟨(h.sl.set g0 (by simp) x).set (u:= .slice none 0 0) (by rw [World.cell?_setCell_other _ _ _ _ (by simp),g1]) (by simp) y,h.canon,h.val,h.sgn,h.le⟩
theorem retZ_stored {w w2:World} {neg:Bool} {A:Option Addr} {n c:Nat} {ds:List Int} {z z':Int} {L:Nat} (h:ZD w2 neg A n c ds z' L) (hz:z'=z) (hb:Below (w.heap.size+1) (w.alloc (.cells #[.bool false,.slice none 0 0] 70)) w2):
  RetZ w z L (.returned (.agg #[.bool neg,.slice A n c])) ((w2.setCell ⟨w.heap.size,0,none⟩ (.bool neg)).setCell ⟨w.heap.size,1,none⟩ (.slice A n c)):=by
 subst hz;obtain ⟨g0,g1,_,_⟩:=res_cells hb;have hb0:Below w.heap.size w w2:=((Below.refl _ _).alloc (Nat.le_refl _) _).trans (hb.mono (Nat.le_succ _));exact ⟨_,rfl,⟨_,_,_,_,_,rfl,h.stored g0 g1 _ _⟩,(hb0.setCell (Nat.le_refl _) _).setCell (Nat.le_refl _) _⟩
theorem ofU_any (u:Int) (w:World) (h0:0<=u) (h1:u<=18446744073709551615):
  Calls prog 73 #[.int .u64 u] w (RetZ w u 4):=by
 obtain ⟨i0,hi0,hz0,hz1,hz2⟩:=info_parts Tryz.intInfo;go_enter func73,ntmps73;go_wp2
 go_loopw [0,3,4] (fun m v i wr=>∃ (k:Nat) (ds:List Int) (q:Int),k<=4/\i= .int .i64 k/\m= .int .u64 q/\0<=q/\q<=18446744073709551615/\ds.length=k/\Dig ds/\dval ds+pw k*q=u/\wr.ownsRow (w.heap.size+1) 3 1 v ds.length (ints ds)/\Below (w.heap.size+1) (w.alloc (.cells #[.bool false,.slice none 0 0] 70)) wr) (fun _ _ i _=>4 - (intOf i).toNat)
 case atStart=>exact ⟨0,[],u,by omega,rfl,rfl,h0,h1,rfl,Dig.nil,by simp [dval_nil,pw_zero],World.ownsRow_nil _ _ _ _,Below.refl _ _⟩
 case round=>
  obtain ⟨k,ds,q,hk,rfl,rfl,hq0,hq1,hl,hd,hv,hown,hb⟩:=hrel;have Hv:=hid hv;have Hl:=hid hl;have Hb:=hid hb;have hsz:=hb.size;clear hv hl hb;simp at hsz
  by_cases hk4:k<4
  ·go_wp2_with (at_builtin;refine wpList_append1 wr rfl (.tmp 9) (.tmp 13) _ rfl (w.heap.size+1) 3 i0 _ 1 8 underlying68 hi0 hz0 hz1 hz2 rfl (by omega) _ _ _ rfl hown rfl rfl one_of_int ?c3 ?c4 ?c5 ?_)
   case c3=>simp only [maxLen];have:=Hl.out;omega
   case c4=>have:=Hl.out;omega
   case c5=>omega
   intro v' w1 hown1 hb1;go_wp2
   go_roundw
   case rel=>
    obtain rfl:=Hl.out
    have hq:0<=q % 65536/\q % 65536<65536:=by omega
    exact ⟨ds.length+1,ds++[q % 65536],q / 65536,by omega,by go_num,rfl,by omega,by omega,by simp,hd.snoc hq,by
     rw [dval_snoc,pw_succ,<-Hv.out,Int.mul_assoc,Int.mul_comm (65536:Int),Int.mul_assoc,Int.add_assoc,<-Int.mul_add]
     congr 2;omega,own_snoc' hown1,Hb.out.trans hb1⟩
   case measure=>simp [intOf];omega
  ·obtain rfl:k=4:=by omega
   obtain ⟨A,c,rfl,hs⟩:=Sl.of_own hown
   go_wp2_with fail
   refine (tidy_any false A ds.length c ds _ hd hs).mono ?_
   rintro e w2 ⟨v,rfl,⟨neg,A2,n2,c2,ds2,rfl,hz⟩,hb2⟩;obtain ⟨g0,g1,g2,g3⟩:=res_cells (Hb.out.trans (hb2.mono hsz));go_wp2
   refine bodyPost_ret (v:= .agg #[.bool neg,.slice A2 n2 c2]) (by simp [results,Tryz.results73,go_sem,g0,g1]) rfl ?_
   have hq:q=0:=by
    have h3:=dval_nonneg hd;have h4:=Hv.out
    have h5:pw 4=18446744073709551616:=by decide
    rw [h5] at h4;omega
   refine retZ_stored (hz.more (by rw [Hl.out];exact Nat.le_refl _)) ?_ (Hb.out.trans (hb2.mono hsz))
   rw [sg_false,<-Hv.out,hq];simp
theorem digit_any (A:Option Addr) (n c:Nat) (ds:List Int) (k:Nat) (w:World) (h:Sl w A n c ds):
  Calls prog 71 #[.slice A n c,.int .i64 k] w fun e w'=>e= .returned (.int .i64 (dg ds k))/\w=w':=by
 have hc:=h.cap;have hm:=h.capm;unfold maxLen at hm
 by_cases hk:k<n
 ·obtain ⟨ad,rfl,hcell⟩:=h.cell hk
  clear h;go_enter func71,ntmps71;go_wp2;go_ret;exact ⟨rfl,rfl⟩
 ·have e:dg ds k=0:=dg_past (by rw [h.len];omega)
  have E:=hid e;clear e h;go_enter func71,ntmps71;go_wp2;go_ret;rw [E.out];exact ⟨rfl,rfl⟩
theorem compare_any (A B:Option Addr) (n m c d:Nat) (xs ys:List Int) (w:World) (ha:Sl w A n c xs) (hb:Sl w B m d ys) (hx:Canon xs) (hy:Canon ys):
  Calls prog 69 #[.slice A n c,.slice B m d] w fun e w'=>e= .returned (.int .i64 (cmpI (dval xs) (dval ys)))/\∃ q,w'=w.drewN q:=by
 have hc:=ha.cap;have hm:=ha.capm;have hc2:=hb.cap;have hm2:=hb.capm;unfold maxLen at hm hm2
 rcases Nat.lt_trichotomy n m with hnm|hnm|hnm
 ·have e:=cmpI_lt (hy.len_lt hx.1 (by rw [ha.len,hb.len];exact hnm))
  have E:=hid e
  have g:decide (n=m)=false:=by simp;omega
  clear e ha hb;go_enter func69,ntmps69;go_wp2;go_ret;rw [E.out];exact ⟨rfl,0,rfl⟩
 ·subst hnm
  go_enter func69,ntmps69;have Ha:=hid ha;have Hb:=hid hb;clear ha hb;go_wp2
  go_loopw [5] (fun i wr=>∃ k:Nat,k<=n/\i= .int .i64 ((k:Int) - 1)/\dval (xs.take k) - dval (ys.take k)=dval xs - dval ys/\∃ q,wr=w.drewN q) (fun i _=>(intOf i+1).toNat)
  case atStart=>exact ⟨n,Nat.le_refl _,by go_num,by rw [dval_take_all (by rw [Ha.out.len];exact Nat.le_refl _),dval_take_all (by rw [Hb.out.len];exact Nat.le_refl _)],0,rfl⟩
  case round=>
   obtain ⟨k,hk,rfl,hv,q,rfl⟩:=hrel;have Hv:=hid hv;clear hv
   by_cases hk0:0<k
   ·obtain ⟨k,rfl⟩:∃ j,k=j+1:=⟨k - 1,by omega⟩
    obtain ⟨ad,rfl,hcell⟩:=Ha.out.cell (k:=k) (by omega)
    obtain ⟨bd,rfl,hcell2⟩:=Hb.out.cell (k:=k) (by omega)
    have h1:(n:Int)<=9223372036854775807:=by omega
    rcases Int.lt_trichotomy (dg xs k) (dg ys k) with hlt|heq|hgt
    ·have hfin:cmpI (dval xs) (dval ys)= -1:=cmpI_lt (by have:=cmp_step hx.1 hy.1 hlt;have:=Hv.out;omega)
     have Hf:=hid hfin;clear hfin;go_wp2
     go_quiet (fail)
     go_wp2;go_ret;rw [Hf.out]
     exact ⟨rfl,by (try simp only [World.drewN_drewN]);exact ⟨_,rfl⟩⟩
    ·have e1:¬ dg xs k<dg ys k:=by omega
     have e2:¬ dg ys k<dg xs k:=by omega
     have HE:=hid heq;clear heq;go_wp2
     go_quiet (fail)
     go_wp2
     go_quiet (fail)
     go_wp2
     go_roundw
     case rel=>exact ⟨k,by omega,by go_num,by
      have:=Hv.out;rw [dval_take_succ,dval_take_succ,HE.out] at this
      omega,by (try simp only [World.drewN_drewN]);exact ⟨_,rfl⟩⟩
     case measure=>simp [intOf]
    ·have hfin:cmpI (dval xs) (dval ys)=1:=cmpI_gt (by have:=cmp_step hy.1 hx.1 hgt;have:=Hv.out;omega)
     have Hf:=hid hfin;clear hfin;go_wp2
     go_quiet (fail)
     go_wp2
     go_quiet (fail)
     go_wp2;go_ret;rw [Hf.out]
     exact ⟨rfl,by (try simp only [World.drewN_drewN]);exact ⟨_,rfl⟩⟩
   ·obtain rfl:k=0:=by omega
    have hfin:cmpI (dval xs) (dval ys)=0:=cmpI_eq (by have:=Hv.out;simp [dval_nil] at this;omega)
    have Hf:=hid hfin;clear hfin;go_wp2;go_ret;rw [Hf.out];exact ⟨rfl,_,rfl⟩
 ·have e:=cmpI_gt (hx.len_lt hy.1 (by rw [ha.len,hb.len];exact hnm))
  have E:=hid e
  have g:decide (n=m)=false:=by simp;omega
  clear e ha hb;go_enter func69,ntmps69;go_wp2;go_ret;rw [E.out];exact ⟨rfl,0,rfl⟩
def RetSl (w:World) (z:Int) (L:Nat) (e:Ending) (w':World):Prop:=∃ A n c zs,e= .returned (.slice A n c)/\Sl w' A n c zs/\Dig zs/\dval zs=z/\n<=L/\Below w.heap.size w w'
theorem plus_any (A B:Option Addr) (n m c d:Nat) (xs ys:List Int) (w:World) (ha:Sl w A n c xs) (hb:Sl w B m d ys) (hx:Dig xs) (hy:Dig ys) (hn:n<=1000000) (hm:m<=1000000):
  Calls prog 68 #[.slice A n c,.slice B m d] w (RetSl w (dval xs+dval ys) (max n m+1)):=by
 obtain ⟨i0,hi0,hz0,hz1,hz2⟩:=info_parts Tryz.intInfo;go_enter func68,ntmps68;have Ha:=hid ha;have Hb:=hid hb;clear ha hb;go_wp2
 go_loopw [5,6,7] (fun v cy i wr=>∃ (k:Nat) (zs:List Int) (q:Int),i= .int .i64 k/\cy= .int .i64 q/\0<=q/\q<=1/\(k<=n\/k<=m\/(q=0/\(k<=n+1\/k<=m+1)))/\zs.length=k/\Dig zs/\dval zs+pw k*q=dval (xs.take k)+dval (ys.take k)/\wr.ownsRow w.heap.size 3 1 v zs.length (ints zs)/\Below w.heap.size w wr) (fun _ _ i _=>n+m+2 - (intOf i).toNat)
 case atStart=>exact ⟨0,[],0,rfl,rfl,by omega,by omega,.inl (Nat.zero_le _),rfl,Dig.nil,by simp [dval_nil],World.ownsRow_nil _ _ _ _,Below.refl _ _⟩
 case round=>
  obtain ⟨k,zs,q,rfl,rfl,hq0,hq1,hk,hl,hd,hv,hown,hbel⟩:=hrel;have Hv:=hid hv;have Hl:=hid hl;have Hk:=hid hk;have hsz:=hbel.size;have Hbel:=hid hbel;clear hv hl hk hbel
  have hkb:k<=n+m+1:=by have:=Hk.out;omega
  by_cases hgo:k<n\/k<m\/0<q
  ·have hkb2:k<=n\/k<=m:=by have:=Hk.out;omega
   have dx:=hx.at_ k;have dy:=hy.at_ k;obtain ⟨x,ex⟩:∃ x,dg xs k=x:=⟨_,rfl⟩;obtain ⟨y,ey⟩:∃ y,dg ys k=y:=⟨_,rfl⟩;rw [ex] at dx;rw [ey] at dy;have Ex:=hid ex;have Ey:=hid ey;have Hkb2:=hid hkb2;clear ex ey hkb2
   have cx:Calls prog 71 #[.slice A n c,.int .i64 k] wr fun e w'=>e= .returned (.int .i64 x)/\wr=w':=by
    have:=digit_any A n c xs k wr (Ha.out.below Hbel.out);rw [Ex.out] at this;exact this
   have cy:Calls prog 71 #[.slice B m d,.int .i64 k] wr fun e w'=>e= .returned (.int .i64 y)/\wr=w':=by
    have:=digit_any B m d ys k wr (Hb.out.below Hbel.out);rw [Ey.out] at this;exact this
   have Cx:=hid cx;have Cy:=hid cy;clear cx cy;have Hgo:=hid hgo;clear hgo
   rcases (show k<n\/(¬ k<n/\k<m)\/(¬ k<n/\¬ k<m/\0<q) by have:=Hgo.out;omega) with g1|⟨g1,g2⟩|⟨g1,g2,g3⟩
   all_goals
    go_wp2_with fail
    refine Cx.out.mono ?_
    rintro e w' ⟨rfl,rfl⟩
    go_wp2_with fail
    refine Cy.out.mono ?_
    rintro e w' ⟨rfl,rfl⟩
    go_wp2_with (at_builtin;refine wpList_append1 wr rfl (.tmp 34) (.tmp 37) _ rfl w.heap.size 3 i0 _ 1 8 underlying68 hi0 hz0 hz1 hz2 rfl (by omega) _ _ _ rfl hown rfl rfl one_of_int (by simp only [maxLen];have:=Hl.out;omega) (by have:=Hl.out;omega) (by omega) ?_;intro v' w1 hown1 hb1)
    go_roundw
    case rel=>
     obtain rfl:=Hl.out;have h2:=Hkb2.out
     refine ⟨zs.length+1,zs++[(x+y+q) % 65536],(x+y+q) / 65536,by go_num,rfl,by omega,by omega,?_,by simp,hd.snoc (by omega),?_,own_snoc' hown1,Hbel.out.trans hb1⟩
     ·by_cases g4:zs.length<n
      ·exact .inl (by omega)
      ·by_cases g5:zs.length<m
       ·exact .inr (.inl (by omega))
       ·refine .inr (.inr ⟨?_,by omega⟩)
        have ex:=Ex.out;have ey:=Ey.out
        rw [dg_past (by rw [Ha.out.len];omega)] at ex
        rw [dg_past (by rw [Hb.out.len];omega)] at ey
        omega
     ·rw [dval_snoc,dval_take_succ,dval_take_succ,pw_succ,Ex.out,Ey.out]
      exact carry_step Hv.out
    case measure=>simp [intOf];omega
  ·have g1:¬ k<n:=by omega
   have g2:¬ k<m:=by omega
   obtain rfl:q=0:=by omega
   clear hgo;go_wp2;obtain ⟨A',c',rfl,hs⟩:=Sl.of_own hown;go_ret
   refine ⟨A',_,c',zs,rfl,hs,hd,?_,?_,Hbel.out⟩
   ·have:=Hv.out
    rw [dval_take_all (by rw [Ha.out.len];omega),dval_take_all (by rw [Hb.out.len];omega)] at this
    omega
   ·have:=Hk.out;have:=Hl.out;omega
def ds63 (n:Nat):Prop:=n<=1000000
theorem minus_any (A B:Option Addr) (n m c d:Nat) (xs ys:List Int) (w:World) (ha:Sl w A n c xs) (hb:Sl w B m d ys) (hx:Dig xs) (hy:Dig ys) (hmn:m<=n) (hge:dval ys<=dval xs) (hn:n<=1000000):
  Calls prog 70 #[.slice A n c,.slice B m d] w (RetSl w (dval xs - dval ys) n):=by
 obtain ⟨i0,hi0,hz0,hz1,hz2⟩:=info_parts Tryz.intInfo;go_enter func70,ntmps70;have Ha:=hid ha;have Hb:=hid hb;clear ha hb;have hca:=Ha.out.cap;have hcm:=Ha.out.capm;unfold maxLen at hcm;go_wp2
 go_loopw [5,6,7] (fun v cy i wr=>∃ (k:Nat) (zs:List Int) (q:Int),i= .int .i64 k/\cy= .int .i64 q/\0<=q/\q<=1/\k<=n/\zs.length=k/\Dig zs/\dval zs=dval (xs.take k) - dval (ys.take k)+pw k*q/\wr.ownsRow w.heap.size 3 1 v zs.length (ints zs)/\Below w.heap.size w wr) (fun _ _ i _=>n - (intOf i).toNat)
 case atStart=>exact ⟨0,[],0,rfl,rfl,by omega,by omega,Nat.zero_le _,rfl,Dig.nil,by simp [dval_nil],World.ownsRow_nil _ _ _ _,Below.refl _ _⟩
 case round=>
  obtain ⟨k,zs,q,rfl,rfl,hq0,hq1,hk,hl,hd,hv,hown,hbel⟩:=hrel;have Hv:=hid hv;have Hl:=hid hl;have hsz:=hbel.size;have Hbel:=hid hbel;clear hv hl hbel
  by_cases hgo:k<n
  ·have dx:=hx.at_ k
   have dy:=hy.at_ k;obtain ⟨ad,rfl,hcell⟩:=(Ha.out.below Hbel.out).cell hgo;obtain ⟨x,ex⟩:∃ x,dg xs k=x:=⟨_,rfl⟩;obtain ⟨y,ey⟩:∃ y,dg ys k=y:=⟨_,rfl⟩;rw [ex] at dx hcell;rw [ey] at dy;have Ex:=hid ex;have Ey:=hid ey;clear ex ey
   have cy:∀ q,Calls prog 71 #[.slice B m d,.int .i64 k] (wr.drewN q) fun e w'=>e= .returned (.int .i64 y)/\wr.drewN q=w':=by
    intro q;have:=digit_any B m d ys k (wr.drewN q) ((Hb.out.below Hbel.out).below (Post.below_drewN (Below.refl _ _) _));rw [Ey.out] at this;exact this
   have Cy:=hid cy;clear cy
   have hn63:ds63 zs.length:=by have:=Hl.out;unfold ds63;omega
   rcases (show ∃ o s:Int,s=x - y - q+65536*o/\0<=s/\s<65536/\((x - y - q<0/\o=1/\s=x - y - q+65536)\/(0<=x - y - q/\o=0/\s=x - y - q)) by
    by_cases h:x - y - q<0
    ·exact ⟨1,x - y - q+65536,by omega,by omega,by omega,.inl ⟨h,rfl,rfl⟩⟩
    ·exact ⟨0,x - y - q,by omega,by omega,by omega,.inr ⟨by omega,rfl,rfl⟩⟩) with ⟨o,s,hso,hs0,hs1,⟨hs,rfl,rfl⟩|⟨hs,rfl,rfl⟩⟩
   all_goals
    have Hso:=hid hso;clear hso;go_wp2
    go_quiet ((go_at_call 71;exact Calls.quiet_of_same (((Cy.out _).mono fun _ _ h=>⟨h.1,h.2.symm⟩))))
    have hown2:(wr.drewN nq).ownsRow w.heap.size 3 1 u5 zs.length (ints zs):=hown;have hbel2:Hid (Below w.heap.size w (wr.drewN nq)):=Post.below_drewN Hbel.out _;have hsz2:w.heap.size<=(wr.drewN nq).heap.size:=hbel2.out.size;generalize wr.drewN nq=W at*
    go_wp2_with (at_builtin;refine wpList_append1 W rfl (.tmp 29) (.tmp 31) _ rfl w.heap.size 3 i0 _ 1 8 underlying68 hi0 hz0 hz1 hz2 rfl (by omega) _ _ _ rfl hown2 rfl rfl one_of_int (by unfold ds63 at hn63;simp only [maxLen];omega) (by unfold ds63 at hn63;omega) (by omega) ?_;intro v' w1 hown1 hb1)
    go_roundw
    case rel=>
     obtain rfl:=Hl.out
     refine ⟨zs.length+1,zs++[_],_,by go_num,rfl,by omega,by omega,by omega,by simp,hd.snoc ⟨hs0,hs1⟩,?_,own_snoc' hown1,hbel2.out.trans hb1⟩
     rw [dval_snoc,dval_take_succ,dval_take_succ,pw_succ,Ex.out,Ey.out];exact borrow_step Hv.out Hso.out
    case measure=>simp [intOf];omega
  ·obtain rfl:k=n:=by omega
   go_wp2;obtain ⟨A',c',rfl,hs⟩:=Sl.of_own hown;go_ret
   refine ⟨A',_,c',zs,rfl,hs,hd,?_,by rw [Hl.out];exact Nat.le_refl _,Hbel.out⟩
   have h1:=Hv.out
   rw [dval_take_all (by rw [Ha.out.len];omega),dval_take_all (by rw [Hb.out.len];omega)] at h1
   have h2:=dval_lt hd;rw [Hl.out] at h2;have h3:=pw_pos k
   rcases (show q=0\/q=1 by omega) with rfl|rfl
   ·omega
   ·omega
end RefZ
end
end Go.Proofs.YtiiekaehbahenaaGreatDoor
