/-
  Contracts of the code that the law reaches, and plain laws. Conditions: as each says.
-/
import Derived.Test.YtiiekaehbahenaaGreatDoorV41
set_option linter.all false
set_option maxHeartbeats 40000000
set_option maxRecDepth 100000
namespace Go.Proofs.YtiiekaehbahenaaGreatDoor
open Tryz
section
namespace Gr
open Go.RowKit Mem Atl Wid RefZ Dig
abbrev zC (n:Nat->Bool) (A:Nat->Option Addr) (k c:Nat->Nat):Array Value:=#[.bool (n 0),.slice (A 0) (k 0) (c 0),.bool (n 1),.slice (A 1) (k 1) (c 1),.bool (n 2),.slice (A 2) (k 2) (c 2),.bool (n 3),.slice (A 3) (k 3) (c 3),.bool (n 4),.slice (A 4) (k 4) (c 4),.bool (n 5),.slice (A 5) (k 5) (c 5),.bool (n 6),.slice (A 6) (k 6) (c 6),.bool (n 7),.slice (A 7) (k 7) (c 7)]
def Arr (w:World) (n:Nat->Bool) (A:Nat->Option Addr) (k c:Nat->Nat) (F:List Int) (L:Nat):Prop:=∀ j,j<8->∃ ds,ZD w (n j) (A j) (k j) (c j) ds (F.getD j 0) L
theorem Arr.below {w W:World} {n:Nat->Bool} {A:Nat->Option Addr} {k c:Nat->Nat} {F:List Int} {L:Nat} (h:Arr w n A k c F L) (hb:Below w.heap.size w W):Arr W n A k c F L:=fun j hj=>by
 obtain ⟨ds,hz⟩:=h j hj;exact ⟨ds,hz.below hb⟩
theorem zC_cell0 {w:World} {X:Nat} {T:TypeId} {n:Nat->Bool} {A:Nat->Option Addr} {k c:Nat->Nat} (hb:Blk w X T (zC n A k c)) {j:Nat} (hj:j<8):w.cell? ⟨X,j*2,none⟩=some (.bool (n j)):=by
 rw [hb.cell (j*2)]
 rcases oct8 hj with rfl|rfl|rfl|rfl|rfl|rfl|rfl|rfl<;>rfl
theorem zC_cell1 {w:World} {X:Nat} {T:TypeId} {n:Nat->Bool} {A:Nat->Option Addr} {k c:Nat->Nat} (hb:Blk w X T (zC n A k c)) {j:Nat} (hj:j<8):w.cell? ⟨X,j*2+1,none⟩=some (.slice (A j) (k j) (c j)):=by
 rw [hb.cell (j*2+1)]
 rcases oct8 hj with rfl|rfl|rfl|rfl|rfl|rfl|rfl|rfl<;>rfl
theorem getD_pos {F:List Int} (h:∀ v∈F,0<=v) (j:Nat):0<=F.getD j 0:=by
 by_cases hj:j<F.length
 ·rw [List.getD_eq_getElem?_getD,List.getElem?_eq_getElem hj]
  exact h _ (List.getElem_mem hj)
 ·rw [List.getD_eq_getElem?_getD,List.getElem?_eq_none (by omega)]
  simp
theorem set_pos {F:List Int} {k:Nat} {v:Int} (h:∀ v∈F,0<=v) (hv:0<=v):∀ x∈F.set k v,0<=x:=fun x hx=>by
 rcases mem_set hx with hx|rfl
 ·exact h x hx
 ·exact hv
theorem over_pos {F:List Int} {u p:Int} (h:∀ v∈F,0<=v) (hp:0<=p):∀ v∈overF F u p,0<=v:=by
 unfold overF
 split
 ·exact set_pos (set_pos (set_pos h (by omega)) (by omega)) (by omega)
 ·split
  ·exact set_pos (set_pos h (by omega)) (by omega)
  ·exact set_pos h hp
theorem over_len {F:List Int} {u p:Int}:(overF F u p).length=F.length:=by
 unfold overF
 split
 ·simp
 ·split<;>simp
theorem made_pos {F:List Int} {pt un lt:Int} {ta sm:Bool} (hF:F.length=8) (hp:∀ v∈F,0<=v) (hpt:pt<=0\/(pt<1000000000/\(un=4\/un=5\/un=6))):∀ v∈madeF ⟨ta,sm,lt,pt,un,F⟩,0<=v:=by
 rw [madeF]
 split
 ·rename_i h
  exact over_pos hp (by have:0<pt:=h;omega)
 ·exact hp
theorem made_len {F:List Int} {pt un lt:Int} {ta sm:Bool} (hF:F.length=8):(madeF ⟨ta,sm,lt,pt,un,F⟩).length=8:=by
 rw [madeF]
 split
 ·rw [over_len];exact hF
 ·exact hF
theorem nat8 {F:List Int} (hF:F.length=8) (hp:∀ v∈F,0<=v):∃ a b c d e f g h:Nat,F=[(a:Int),b,c,d,e,f,g,h]:=by
 match F,hF with
 |[a,b,c,d,e,f,g,h],_=>
  simp only [List.mem_cons,List.not_mem_nil,or_false,forall_eq_or_imp,forall_eq] at hp;obtain ⟨h1,h2,h3,h4,h5,h6,h7,h8⟩:=hp
  exact ⟨a.toNat,b.toNat,c.toNat,d.toNat,e.toNat,f.toNat,g.toNat,h.toNat,by rw [Int.toNat_of_nonneg h1,Int.toNat_of_nonneg h2,Int.toNat_of_nonneg h3,Int.toNat_of_nonneg h4,Int.toNat_of_nonneg h5,Int.toNat_of_nonneg h6,Int.toNat_of_nonneg h7,Int.toNat_of_nonneg h8]⟩
theorem oct_fit (a b c d e f g h:Nat) (hok:∀ m,m<8->Chk.In64 ([(a:Int),b,c,d,e,f,g,h].getD m 0)):∀ k,oct a b c d e f g h k<9223372036854775808:=by
 have h0:(a:Int)<=_:=(hok 0 (by decide)).2
 have h1:(b:Int)<=_:=(hok 1 (by decide)).2
 have h2:(c:Int)<=_:=(hok 2 (by decide)).2
 have h3:(d:Int)<=_:=(hok 3 (by decide)).2
 have h4:(e:Int)<=_:=(hok 4 (by decide)).2
 have h5:(f:Int)<=_:=(hok 5 (by decide)).2
 have h6:(g:Int)<=_:=(hok 6 (by decide)).2
 have h7:(h:Int)<=_:=(hok 7 (by decide)).2
 intro k;unfold oct
 split<;>omega
theorem all_oct {a b c d e f g h:Nat} (hD:∀ k,oct a b c d e f g h k<9223372036854775808):[(a:Int),b,c,d,e,f,g,h].all (fun v=>decide (v<=maxI))=true:=by
 have h0:a<_:=hD 0;have h1:b<_:=hD 1;have h2:c<_:=hD 2;have h3:d<_:=hD 3;have h4:e<_:=hD 4;have h5:f<_:=hD 5;have h6:g<_:=hD 6;have h7:h<_:=hD 7;simp [maxI];omega
theorem bel2 {w:World} (a b:Obj):Below w.heap.size w ((w.alloc a).alloc b):=by
 have h1:=(Below.refl w.heap.size w).alloc (Nat.le_refl _) a;exact h1.alloc h1.size b
def outF (G:List Int) (j:Nat):Nat->Int:=fun m=>if m<j then G.getD m 0 else 0
theorem outF_succ (G:List Int) (k:Nat):(fun j=>if j=k then G.getD k 0 else outF G k j)=outF G (k+1):=by
 funext j
 unfold outF
 by_cases h:j=k
 ·subst h;simp
 ·rw [if_neg h]
  by_cases h2:j<k
  ·rw [if_pos h2,if_pos (by omega)]
  ·rw [if_neg h2,if_neg (by omega)]
structure MSt (wc:World) (G:List Int) (j:Nat) (W:World):Prop where
 bw:Below wc.heap.size wc W
 bO:Blk W wc.heap.size 130 (durF (outF G j))
 ok:∀ m,m<j->Chk.In64 (G.getD m 0)
theorem MSt.step {wc:World} {G:List Int} {j:Nat} {W Y:World} (h:MSt wc G j W) (hb:Below W.heap.size W Y):MSt wc G j Y:=
 ⟨h.bw.trans (hb.mono h.bw.size),h.bO.below hb h.bO.lt,h.ok⟩
theorem MSt.next {wc:World} {G:List Int} {j:Nat} {W:World} (h:MSt wc G j W) (hj:j<8) {X:Int} (hX:G.getD j 0=X) (hin:Chk.In64 X):MSt wc G (j+1) (W.setCell ⟨wc.heap.size,j,none⟩ (.int .i64 X)):=by
 refine ⟨h.bw.setCell (Nat.le_refl _) _,?_,fun m hm=>?_⟩
 ·have:=durF_set h.bO hj X
  rw [<-hX,outF_succ,hX] at this;exact this
 ·by_cases hmj:m=j
  ·subst hmj;rw [hX];exact hin
  ·exact h.ok m (by omega)
def stp (F:List Int) (t u:Nat):Nat->List Int×Nat
 |0=>(F,t)
 |j+1=>((stp F t u j).1.set (u+1+j) (((stp F t u j).2 / lenU (u+2+j):Nat):Int),(stp F t u j).2 % lenU (u+2+j))
theorem stp_le (F:List Int) (t u:Nat):∀ j,(stp F t u j).2<=t
 |0=>Nat.le_refl _
 |j+1=>Nat.le_trans (Nat.mod_le _ _) (stp_le F t u j)
theorem stp_end (F:List Int) (p u:Nat) (h4:4<=u) (h6:u<=6):(stp F (p*(lenU (u+1) / 1000000000)) u (7 - u)).1=overF F ((u:Int) - 4) p:=by
 have:u=4\/u=5\/u=6:=by omega
 rcases this with rfl|rfl|rfl
 ·simp [stp,overF,lenU]
 ·simp [stp,overF,lenU]
 ·simp [stp,overF,lenU]
theorem zd_fit {w:World} {g:Bool} {A:Option Addr} {k c:Nat} {ds:List Int} {z:Int} {L:Nat} (h:ZD w g A k c ds z L) (h0:0<=z) (h1:z<9223372036854775808):ZD w g A k c ds z 4:=by
 refine ⟨h.sl,h.canon,h.val,h.sgn,?_⟩
 have hv:=zd_abs h h0
 have:=h.canon.len_le (k:=4) (by rw [hv,show pw 4=18446744073709551616 from by decide];omega)
 rw [<-h.sl.len];exact this
def upF {T:Type} (f:Nat->T) (k:Nat) (v:T):Nat->T:=fun j=>if j=k then v else f j
theorem upF_same {T:Type} (f:Nat->T) (k:Nat) (v:T):upF f k v k=v:=if_pos rfl
theorem upF_ne {T:Type} (f:Nat->T) {k j:Nat} (v:T) (h:j≠k):upF f k v j=f j:=if_neg h
theorem zC_set {w:World} {X:Nat} {T:TypeId} {n:Nat->Bool} {A:Nat->Option Addr} {k c:Nat->Nat} (hb:Blk w X T (zC n A k c)) {j:Nat} (hj:j<8) (m:Bool) (B:Option Addr) (p q:Nat):
  Blk ((w.setCell ⟨X,j*2,none⟩ (.bool m)).setCell ⟨X,j*2+1,none⟩ (.slice B p q)) X T (zC (upF n j m) (upF A j B) (upF k j p) (upF c j q)):=by
 have h:=(hb.set_ (j*2) (.bool m)).set_ (j*2+1) (.slice B p q)
 rcases oct8 hj with rfl|rfl|rfl|rfl|rfl|rfl|rfl|rfl<;>exact h
theorem Arr.set {w:World} {n:Nat->Bool} {A:Nat->Option Addr} {k c:Nat->Nat} {F:List Int} {L:Nat} (h:Arr w n A k c F L) (hF:F.length=8) {j:Nat} (hj:j<8) {m:Bool} {B:Option Addr} {p q:Nat} {ds:List Int} {z:Int} (hz:ZD w m B p q ds z L):Arr w (upF n j m) (upF A j B) (upF k j p) (upF c j q) (F.set j z) L:=by
 intro i hi
 by_cases e:i=j
 ·subst e
  rw [upF_same,upF_same,upF_same,upF_same,List.getD_eq_getElem?_getD,List.getElem?_set_self (by omega)]
  exact ⟨ds,hz⟩
 ·rw [upF_ne _ _ e,upF_ne _ _ e,upF_ne _ _ e,upF_ne _ _ e,getD_set_ne e]
  exact h i hi
theorem stp_len (F:List Int) (t u:Nat):∀ j,(stp F t u j).1.length=F.length
 |0=>rfl
 |j+1=>by rw [stp,List.length_set];exact stp_len F t u j
theorem Arr.more {w:World} {n:Nat->Bool} {A:Nat->Option Addr} {k c:Nat->Nat} {F:List Int} {L L':Nat} (h:Arr w n A k c F L) (hl:L<=L'):Arr w n A k c F L':=fun j hj=>by
 obtain ⟨ds,hz⟩:=h j hj;exact ⟨ds,hz.more hl⟩
theorem zd_setc {w:World} {neg:Bool} {A:Option Addr} {n c:Nat} {ds:List Int} {z:Int} {L:Nat} (h:ZD w neg A n c ds z L) {p:Addr} {u:Value} (hp:w.cell? p=some u) (hu:∀ k,u≠.int .i64 k) (x:Value):ZD (w.setCell p x) neg A n c ds z L:=
 ⟨h.sl.set hp hu x,h.canon,h.val,h.sgn,h.le⟩
theorem zd_setC {w:World} {X:Nat} {T:TypeId} {n:Nat->Bool} {A:Nat->Option Addr} {k c:Nat->Nat} (hb:Blk w X T (zC n A k c)) {j:Nat} (hj:j<8) (m:Bool) (B:Option Addr) (p q:Nat)
  {neg:Bool} {A':Option Addr} {n' c':Nat} {ds:List Int} {z:Int} {L:Nat} (h:ZD w neg A' n' c' ds z L):ZD ((w.setCell ⟨X,j*2,none⟩ (.bool m)).setCell ⟨X,j*2+1,none⟩ (.slice B p q)) neg A' n' c' ds z L:=by
 refine zd_setc (u:= .slice (A j) (k j) (c j)) (zd_setc h (zC_cell0 hb hj) (fun _ e=>by cases e) _) ?_ (fun _ e=>by cases e) _
 have h1:=(hb.set_ (j*2) (.bool m)).cell (j*2+1)
 rcases oct8 hj with rfl|rfl|rfl|rfl|rfl|rfl|rfl|rfl<;>exact h1
theorem div24 (g:Bool) (A:Option Addr) (k c:Nat) (ds:List Int) (T Y:Nat) (g':Bool) (A':Option Addr) (k' c':Nat) (ds':List Int) (z:World) (ha:ZD z g A k c ds (T:Int) 4) (hb:ZD z g' A' k' c' ds' (Y:Int) 6) (hT:T<9223372036854775808) (hY:0<Y):
  Calls prog 76 #[.agg #[.bool g,.slice A k c],.agg #[.bool g',.slice A' k' c']] z fun e w'=>∃ (n1:Bool) (A1:Option Addr) (k1 c1:Nat) (d1:List Int) (n2:Bool) (A2:Option Addr) (k2 c2:Nat) (d2:List Int),
   e= .returned (.tuple #[.agg #[.bool n1,.slice A1 k1 c1],.agg #[.bool n2,.slice A2 k2 c2]])/\ZD w' n1 A1 k1 c1 d1 ((T / Y:Nat):Int) 4/\ZD w' n2 A2 k2 c2 d2 ((T % Y:Nat):Int) 4/\Below z.heap.size z w':=by
 refine (divx_any _ _ _ _ _ _ _ _ _ _ _ _ _ _ z ha hb (by omega) (by omega) (by omega)).mono ?_
 rintro e w3 ⟨v1,v2,rfl,⟨g3,A3,k3,c3,d3,rfl,hz3⟩,⟨g4,A4,k4,c4,d4,rfl,hz4⟩,hb3⟩
 have e1:(T:Int).fdiv (Y:Int)=((T / Y:Nat):Int):=by rw [Int.fdiv_eq_ediv_of_nonneg _ (by omega)];exact (Int.natCast_ediv T Y).symm
 have e2:(T:Int).fmod (Y:Int)=((T % Y:Nat):Int):=by rw [Int.fmod_eq_emod_of_nonneg _ (by omega)];exact (Int.natCast_emod T Y).symm
 rw [e1] at hz3;rw [e2] at hz4;have h1:T / Y<=T:=Nat.div_le_self _ _;have h2:T % Y<=T:=Nat.mod_le _ _;generalize T / Y=q at*;generalize T % Y=r at*
 exact ⟨_,_,_,_,_,_,_,_,_,_,rfl,zd_fit hz3 (by omega) (by omega),zd_fit hz4 (by omega) (by omega),hb3⟩
structure Cut2 (wr:World) (P8 P9 T Y:Nat) (wx:World):Prop where
 q:∃ (n:Bool) (A:Option Addr) (k c:Nat) (d:List Int),Var wx P8 n A k c d ((T / Y:Nat):Int) 4
 r:∃ (n:Bool) (A:Option Addr) (k c:Nat) (d:List Int),Var wx P9 n A k c d ((T % Y:Nat):Int) 4
 l8:wr.heap.size<=P8
 l9:wr.heap.size<=P9
 bel:Below wr.heap.size wr wx
section
variable {wr w5:World} {T Y:Nat} {n1 n2:Bool} {A1 A2:Option Addr} {k1 c1 k2 c2:Nat} {d1 d2:List Int}
abbrev zv (n:Bool) (A:Option Addr) (k c:Nat):Array Value:=#[.bool n,.slice A k c]
theorem fin_a (kb:Below wr.heap.size wr w5) (hq:ZD w5 n1 A1 k1 c1 d1 ((T / Y:Nat):Int) 4) (hr:ZD w5 n2 A2 k2 c2 d2 ((T % Y:Nat):Int) 4):
  Cut2 wr w5.heap.size (w5.heap.size+1) T Y ((w5.alloc (.cells (zv n1 A1 k1 c1) 70)).alloc (.cells (zv n2 A2 k2 c2) 70)):=by
 obtain ⟨b1,b2,b3,-⟩:=box2 w5 70 70 (zv n1 A1 k1 c1) (zv n2 A2 k2 c2)
 exact ⟨⟨_,_,_,_,_,b1,hq.below b3⟩,⟨_,_,_,_,_,b2,hr.below b3⟩,kb.size,by have:=kb.size;omega,kb.trans (b3.mono kb.size)⟩
theorem fin_b (kb:Below wr.heap.size wr w5) (hq:ZD w5 n1 A1 k1 c1 d1 ((T / Y:Nat):Int) 4) (hr:ZD w5 n2 A2 k2 c2 d2 ((T % Y:Nat):Int) 4):
  Cut2 wr (w5.heap.size+1) w5.heap.size T Y ((w5.alloc (.cells (zv n2 A2 k2 c2) 70)).alloc (.cells (zv n1 A1 k1 c1) 70)):=by
 obtain ⟨b1,b2,b3,-⟩:=box2 w5 70 70 (zv n2 A2 k2 c2) (zv n1 A1 k1 c1)
 exact ⟨⟨_,_,_,_,_,b2,hq.below b3⟩,⟨_,_,_,_,_,b1,hr.below b3⟩,by have:=kb.size;omega,kb.size,kb.trans (b3.mono kb.size)⟩
theorem fin_c {N:Nat} (kb:Below wr.heap.size wr w5) (hq:ZD w5 n1 A1 k1 c1 d1 ((T / Y:Nat):Int) 4) (hr:ZD w5 n2 A2 k2 c2 d2 ((T % Y:Nat):Int) 4) (hN:Blk w5 N 70 (zv false none 0 0)) (hl:wr.heap.size<=N):
  Cut2 wr N w5.heap.size T Y (((w5.setCell ⟨N,0,none⟩ (.bool n1)).setCell ⟨N,1,none⟩ (.slice A1 k1 c1)).alloc (.cells (zv n2 A2 k2 c2) 70)):=by
 have b1:=Blk.new ((w5.setCell ⟨N,0,none⟩ (.bool n1)).setCell ⟨N,1,none⟩ (.slice A1 k1 c1)) 70 (zv n2 A2 k2 c2);simp only [World.size_setCell] at b1
 refine ⟨⟨_,_,_,_,_,(Var.mine hq hN).below ((Below.refl _ _).alloc (Nat.le_refl _) _)⟩,⟨_,_,_,_,_,b1,(hr.put hN _ _).alloc _⟩,hl,kb.size,((kb.setCell (p:=⟨N,0,none⟩) hl _).setCell (p:=⟨N,1,none⟩) hl _).alloc (by simp;exact kb.size) _⟩
theorem fin_d {N:Nat} (kb:Below wr.heap.size wr w5) (hq:ZD w5 n1 A1 k1 c1 d1 ((T / Y:Nat):Int) 4) (hr:ZD w5 n2 A2 k2 c2 d2 ((T % Y:Nat):Int) 4) (hN:Blk w5 N 70 (zv false none 0 0)) (hl:wr.heap.size<=N):
  Cut2 wr w5.heap.size N T Y (((w5.setCell ⟨N,0,none⟩ (.bool n2)).setCell ⟨N,1,none⟩ (.slice A2 k2 c2)).alloc (.cells (zv n1 A1 k1 c1) 70)):=by
 have b1:=Blk.new ((w5.setCell ⟨N,0,none⟩ (.bool n2)).setCell ⟨N,1,none⟩ (.slice A2 k2 c2)) 70 (zv n1 A1 k1 c1);simp only [World.size_setCell] at b1
 refine ⟨⟨_,_,_,_,_,b1,(hq.put hN _ _).alloc _⟩,⟨_,_,_,_,_,(Var.mine hr hN).below ((Below.refl _ _).alloc (Nat.le_refl _) _)⟩,kb.size,hl,((kb.setCell (p:=⟨N,0,none⟩) hl _).setCell (p:=⟨N,1,none⟩) hl _).alloc (by simp;exact kb.size) _⟩
theorem fin_e {N N':Nat} (kb:Below wr.heap.size wr w5) (hq:ZD w5 n1 A1 k1 c1 d1 ((T / Y:Nat):Int) 4) (hr:ZD w5 n2 A2 k2 c2 d2 ((T % Y:Nat):Int) 4) (hN:Blk w5 N 70 (zv false none 0 0)) (hN':Blk w5 N' 70 (zv false none 0 0)) (hne:N≠N') (hl:wr.heap.size<=N) (hl':wr.heap.size<=N'):
  Cut2 wr N N' T Y ((((w5.setCell ⟨N,0,none⟩ (.bool n1)).setCell ⟨N,1,none⟩ (.slice A1 k1 c1)).setCell ⟨N',0,none⟩ (.bool n2)).setCell ⟨N',1,none⟩ (.slice A2 k2 c2)):=by
 have hf:Blk ((w5.setCell ⟨N,0,none⟩ (.bool n1)).setCell ⟨N,1,none⟩ (.slice A1 k1 c1)) N' 70 (zv false none 0 0):=blk_put_far hN' (Ne.symm hne) _ _;exact ⟨⟨_,_,_,_,_,(Var.mine hq hN).put hf hne _ _⟩,⟨_,_,_,_,_,Var.mine (hr.put hN _ _) hf⟩,hl,hl',(((kb.setCell (p:=⟨N,0,none⟩) hl _).setCell (p:=⟨N,1,none⟩) hl _).setCell (p:=⟨N',0,none⟩) hl' _).setCell (p:=⟨N',1,none⟩) hl' _⟩
end
abbrev rez8:Array Value:=#[.int .i64 0,.int .i64 0,.int .i64 0,.int .i64 0,.int .i64 0,.int .i64 0,.int .i64 0,.int .i64 0]
structure QSt (w:World) (n:Nat->Bool) (A:Nat->Option Addr) (k c:Nat->Nat) (F:List Int) (L:Nat) (W:World):Prop where
 b1:Blk W w.heap.size 71 (zC n A k c)
 ar:Arr W n A k c F L
 b2:Blk W (w.heap.size+1) 32 rez8
 bel:Below w.heap.size w W
theorem QSt.below {w W Y:World} {n:Nat->Bool} {A:Nat->Option Addr} {k c:Nat->Nat} {F:List Int} {L:Nat} (h:QSt w n A k c F L W) (hb:Below W.heap.size W Y):QSt w n A k c F L Y:=
 ⟨h.b1.below hb h.b1.lt,h.ar.below hb,h.b2.below hb h.b2.lt,h.bel.trans (hb.mono h.bel.size)⟩
structure PSt (w:World) (B:Nat) (F:List Int) (t u j:Nat) (W:World):Prop where
 arr:∃ (n:Nat->Bool) (A:Nat->Option Addr) (k c:Nat->Nat),QSt w n A k c (stp F t u j).1 4000 W
 var:∃ (g:Bool) (A:Option Addr) (k c:Nat) (ds:List Int),Var W B g A k c ds ((stp F t u j).2:Int) 4
 hB:w.heap.size+1<B
theorem PSt.next {w wx:World} {B:Nat} {F:List Int} {t u j T Y:Nat} {n:Nat->Bool} {A:Nat->Option Addr} {k c:Nat->Nat} {g:Bool} {Av:Option Addr} {kv cv:Nat} {dv:List Int} {z:Int}
  (hT:(stp F t u j).2=T) (hY:lenU (u+2+j)=Y) (hF:F.length=8) (hK:u+1+j<8) (hB:w.heap.size+1<B) (hQ:QSt w n A k c (stp F t u j).1 4000 wx) (hv:Var wx B g Av kv cv dv z 4)
  {n6 n7:Bool} {A6 A7:Option Addr} {k6 c6 k7 c7:Nat} {d6 d7:List Int} (hq:ZD wx n6 A6 k6 c6 d6 ((T / Y:Nat):Int) 4) (hr:ZD wx n7 A7 k7 c7 d7 ((T % Y:Nat):Int) 4):
  PSt w B F t u (j+1) ((((wx.setCell ⟨w.heap.size,(u+1+j)*2,none⟩ (.bool n6)).setCell ⟨w.heap.size,(u+1+j)*2+1,none⟩ (.slice A6 k6 c6)).setCell ⟨B,0,none⟩ (.bool n7)).setCell ⟨B,1,none⟩ (.slice A7 k7 c7)):=by
 have hBw:B≠w.heap.size:=by omega
 have hb1:=zC_set hQ.b1 hK n6 A6 k6 c6;have hvb:=(hv.blk.far (p:=⟨w.heap.size,(u+1+j)*2,none⟩) hBw (.bool n6)).far (p:=⟨w.heap.size,(u+1+j)*2+1,none⟩) hBw (.slice A6 k6 c6)
 have hle:w.heap.size<=B:=by omega
 refine ⟨⟨upF n (u+1+j) n6,upF A (u+1+j) A6,upF k (u+1+j) k6,upF c (u+1+j) c6,⟨blk_put_far hb1 hBw.symm _ _,?_,blk_put_far ((hQ.b2.far (p:=⟨w.heap.size,(u+1+j)*2,none⟩) (Nat.succ_ne_self _) _).far (p:=⟨w.heap.size,(u+1+j)*2+1,none⟩) (Nat.succ_ne_self _) _) (by omega) _ _,(((hQ.bel.setCell (p:=⟨w.heap.size,(u+1+j)*2,none⟩) (Nat.le_refl _) _).setCell (p:=⟨w.heap.size,(u+1+j)*2+1,none⟩) (Nat.le_refl _) _).setCell (p:=⟨B,0,none⟩) hle _).setCell (p:=⟨B,1,none⟩) hle _⟩⟩,⟨n7,A7,k7,c7,d7,?_⟩,hB⟩
 ·rw [stp,hT,hY]
  refine Arr.set (L:=4000) ?_ (by rw [stp_len];exact hF) hK (((zd_setC hQ.b1 hK n6 A6 k6 c6 hq).put hvb _ _).more (by omega))
  intro i hi;obtain ⟨ds,hz⟩:=hQ.ar i hi;exact ⟨ds,(zd_setC hQ.b1 hK n6 A6 k6 c6 hz).put hvb _ _⟩
 ·rw [stp,hT,hY]
  exact Var.mine (zd_setC hQ.b1 hK n6 A6 k6 c6 hr) hvb
theorem neg_oct8 (a b c d e f g h:Nat):durF (negO (oct a b c d e f g h) 8)=#[.int .i64 (-(a:Int)),.int .i64 (-(b:Int)),.int .i64 (-(c:Int)),.int .i64 (-(d:Int)),.int .i64 (-(e:Int)),.int .i64 (-(f:Int)),.int .i64 (-(g:Int)),.int .i64 (-(h:Int))]:=by
 simp [durF,negO,oct]
theorem neg18x (a b c d e f g h:Nat) (hD:∀ k,oct a b c d e f g h k<9223372036854775808) (w:World):Calls prog 80 #[.agg (durV a b c d e f g h)] w fun r w'=>r= .returned (.tuple #[.agg #[.int .i64 (-(a:Int)),.int .i64 (-(b:Int)),.int .i64 (-(c:Int)),.int .i64 (-(d:Int)),.int .i64 (-(e:Int)),.int .i64 (-(f:Int)),.int .i64 (-(g:Int)),.int .i64 (-(h:Int))],.int .i64 0])/\Below w.heap.size w w':=by
 have h:=neg18 a b c d e f g h hD w;rw [neg_oct8] at h;exact h
theorem lst8 (a b c d e f g h:Int):durF (fun j=>([a,b,c,d,e,f,g,h]:List Int)[j]?.getD 0)=#[.int .i64 a,.int .i64 b,.int .i64 c,.int .i64 d,.int .i64 e,.int .i64 f,.int .i64 g,.int .i64 h]:=rfl
theorem lst8' (a b c d e f g h:Int):durF (fun j=>([a,b,c,d,e,f,g,h]:List Int).getD j 0)=#[.int .i64 a,.int .i64 b,.int .i64 c,.int .i64 d,.int .i64 e,.int .i64 f,.int .i64 g,.int .i64 h]:=rfl
end Gr
end
end Go.Proofs.YtiiekaehbahenaaGreatDoor
