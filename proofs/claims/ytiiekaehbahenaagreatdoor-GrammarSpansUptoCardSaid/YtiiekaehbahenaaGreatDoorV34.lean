/-
  Contracts of the code that the law reaches, and plain laws. Conditions: as each says.
-/
import Derived.Test.YtiiekaehbahenaaGreatDoorV32
import Derived.Test.YtiiekaehbahenaaGreatDoorV33
import Derived.Deep.DeepCutAuto
set_option linter.all false
set_option maxHeartbeats 40000000
set_option maxRecDepth 100000
namespace Go.Proofs.YtiiekaehbahenaaGreatDoor
open Lib (hid)
open Tryz
section
namespace RefZ
open Go.RowKit Mem Dig Chk
structure Two (w W:World) (b b':Nat) (q r:Int) (L:Nat):Prop where
 q:∃ g A k c ds,Var W b g A k c ds q L
 r:∃ g A k c ds,Var W b' g A k c ds r L
 ne:b≠b'
 lt:w.heap.size+1+1+1<b
 lt':w.heap.size+1+1+1<b'
theorem bcell {W w1:World} (hb:Below W.heap.size W w1):(∀ b o,b<W.heap.size->w1.cell? ⟨b,o,none⟩=W.cell? ⟨b,o,none⟩)/\(∀ b o,b<W.heap.size->w1.frozen? ⟨b,o,none⟩=W.frozen? ⟨b,o,none⟩):=
 ⟨fun b o h=>hb.cell (p:=⟨b,o,none⟩) h,fun b o h=>hb.frozen (p:=⟨b,o,none⟩) h⟩
theorem nblk1 {w w':World} {cs:Array Value} {t:TypeId} (hb:Below (w.alloc (.cells cs t)).heap.size (w.alloc (.cells cs t)) w'):Blk w' w.heap.size t cs/\w.heap.size<w'.heap.size:=
 have h:Blk w' w.heap.size t cs:=(Blk.new w _ _).below hb (by simp)
 ⟨h,h.lt⟩
theorem nblk2 {w w':World} {cs ds:Array Value} {t:TypeId} (hb:Below ((w.alloc (.cells cs t)).alloc (.cells ds t)).heap.size ((w.alloc (.cells cs t)).alloc (.cells ds t)) w'):
  (Blk w' w.heap.size t cs/\w.heap.size<w'.heap.size)/\Blk w' (w.heap.size+1) t ds/\w.heap.size+1<w'.heap.size:=by
 have h:Blk w' w.heap.size t cs:=((Blk.new w _ _).alloc _).below hb (by simp;omega)
 have h2:=nblk1 hb;simp only [World.size_alloc] at h2;exact ⟨⟨h,h.lt⟩,h2⟩
theorem nblk1d {w w':World} {cs:Array Value} {t:TypeId} (hb:Below (w.alloc (.cells cs t)).drew.heap.size (w.alloc (.cells cs t)).drew w'):Blk w' w.heap.size t cs/\w.heap.size<w'.heap.size:=
 nblk1 (w:=w) (t:=t) ((below_drew _).trans hb)
theorem nblk2d {w w':World} {cs ds:Array Value} {t:TypeId} (hb:Below ((w.alloc (.cells cs t)).alloc (.cells ds t)).drew.heap.size ((w.alloc (.cells cs t)).alloc (.cells ds t)).drew w'):
  (Blk w' w.heap.size t cs/\w.heap.size<w'.heap.size)/\Blk w' (w.heap.size+1) t ds/\w.heap.size+1<w'.heap.size:=
 nblk2 (w:=w) (t:=t) ((below_drew _).trans hb)
theorem carryb {w1 X w2:World} (hx:Below w1.heap.size w1 X) (hb:Below X.heap.size X w2) {g:Nat} {t:TypeId} {cs:Array Value} (h:Blk w1 g t cs):Blk w2 g t cs:=
 (h.below hx h.lt).below hb (Nat.lt_of_lt_of_le h.lt hx.size)
theorem blk_new_at {X:World} {b:Nat} {t:TypeId} {cs:Array Value} (h:b=X.heap.size):Blk (X.alloc (.cells cs t)) b t cs:=by subst h;exact Blk.new X t cs
theorem blk_cells {W:World} {b:Nat} {x y:Value} (h:Blk W b 70 #[x,y]):
  W.cell? ⟨b,0,none⟩=some x/\W.cell? ⟨b,1,none⟩=some y/\W.frozen? ⟨b,0,none⟩=false/\W.frozen? ⟨b,1,none⟩=false/\b<W.heap.size:=⟨h.cell 0,h.cell 1,h.frozen 0,h.frozen 1,h.lt⟩
def RetZZ (w:World) (z1 z2:Int) (L:Nat) (e:Ending) (w':World):Prop:=
 ∃ v1 v2,e= .returned (.tuple #[v1,v2])/\IsZ w' v1 z1 L/\IsZ w' v2 z2 L/\Below w.heap.size w w'
theorem div_adj {x y qv rv X Y:Int} {n1 n2 g7:Bool} {k7:Nat} (hX:x=sg n1*X) (hY:y=sg n2*Y) (hv:qv*Y+rv=X) (h0:0<=rv) (h1:rv<Y)
  (hs:(k7=0/\(if n1=true then -rv else rv)=0)\/(0<k7/\g7=true/\(if n1=true then -rv else rv)<0)\/(0<k7/\g7=false/\0<(if n1=true then -rv else rv))) (hk:0<k7) (hg:g7≠n2):
  x.fdiv y=(if n1=n2 then qv else -qv) - 1/\x.fmod y=(if n1=true then -rv else rv)+y:=by
 have e:Y*qv=X - rv:=by rw [Int.mul_comm];omega
 cases n1<;>cases n2<;>cases g7<;>simp only [sg,if_true,if_false,Bool.false_eq_true,reduceCtorEq,Int.one_mul,Int.neg_mul,ne_eq,not_true_eq_false,not_false_eq_true,false_and,and_false,or_false,false_or,true_and] at* <;>first
  |omega
  |(subst hX hY;refine fdiv_of _ _ _ _ ?_ ?_<;>(try simp only [Int.neg_mul,Int.mul_neg,Int.mul_sub,Int.neg_neg,Int.mul_one])<;>omega)
theorem div_not {x y qv rv X Y:Int} {n1 n2 g7:Bool} {k7:Nat} (hX:x=sg n1*X) (hY:y=sg n2*Y) (hv:qv*Y+rv=X) (h0:0<=rv) (h1:rv<Y)
  (hs:(k7=0/\(if n1=true then -rv else rv)=0)\/(0<k7/\g7=true/\(if n1=true then -rv else rv)<0)\/(0<k7/\g7=false/\0<(if n1=true then -rv else rv))) (hg:¬ (0<k7/\g7≠n2)):
  x.fdiv y=(if n1=n2 then qv else -qv)/\x.fmod y=(if n1=true then -rv else rv):=by
 have e:Y*qv=X - rv:=by rw [Int.mul_comm];omega
 cases n1<;>cases n2<;>cases g7<;>simp only [sg,if_true,if_false,Bool.false_eq_true,reduceCtorEq,Int.one_mul,Int.neg_mul,ne_eq,not_true_eq_false,not_false_eq_true,false_and,and_false,or_false,false_or,true_and,and_true] at* <;>first
  |omega
  |(subst hX hY;refine fdiv_of _ _ _ _ ?_ ?_<;>(try simp only [Int.neg_mul,Int.mul_neg,Int.neg_neg])<;>omega)
theorem below_trans {B:Nat} {W W' W'':World} (h:Below B W W') (hB:B<=W.heap.size) (hb:Below W'.heap.size W' W''):Below B W W'':=h.trans (hb.mono (Nat.le_trans hB h.size))
section
variable {w W w3:World} {n1 n2:Bool} {A B:Option Addr} {n c m d:Nat} {xs ys:List Int} {x y:Int} {L M:Nat}
 {g3 g4:Bool} {A3 A4:Option Addr} {k3 c3 k4 c4:Nat} {d3 d4:List Int} {q r:Int} {K:Nat}
theorem finA (hS:LongSt w n1 A n c n2 B m d xs ys x y L M W) (hb:Below W.heap.size W w3) (h3:ZD w3 g3 A3 k3 c3 d3 q K) (h4:ZD w3 g4 A4 k4 c4 d4 r K) (hsz:w.heap.size+1+1+1<W.heap.size):
  LongSt w n1 A n c n2 B m d xs ys x y L M ((w3.alloc (.cells #[.bool g3,.slice A3 k3 c3] 70)).alloc (.cells #[.bool g4,.slice A4 k4 c4] 70))/\
  Two w ((w3.alloc (.cells #[.bool g3,.slice A3 k3 c3] 70)).alloc (.cells #[.bool g4,.slice A4 k4 c4] 70)) w3.heap.size (w3.heap.size+1) q r K:=by
 have hs:=hb.size;obtain ⟨b1,b2,b3,b4⟩:=box2 w3 70 70 #[.bool g3,.slice A3 k3 c3] #[.bool g4,.slice A4 k4 c4]
 exact ⟨hS.below (hb.trans (b3.mono hs)),⟨⟨_,_,_,_,_,b1,h3.below b3⟩,⟨_,_,_,_,_,b2,h4.below b3⟩,by omega,by omega,by omega⟩⟩
theorem finB (hS:LongSt w n1 A n c n2 B m d xs ys x y L M W) (hb:Below W.heap.size W w3) (h3:ZD w3 g3 A3 k3 c3 d3 q K) (h4:ZD w3 g4 A4 k4 c4 d4 r K) (hsz:w.heap.size+1+1+1<W.heap.size):
  LongSt w n1 A n c n2 B m d xs ys x y L M ((w3.alloc (.cells #[.bool g4,.slice A4 k4 c4] 70)).alloc (.cells #[.bool g3,.slice A3 k3 c3] 70))/\
  Two w ((w3.alloc (.cells #[.bool g4,.slice A4 k4 c4] 70)).alloc (.cells #[.bool g3,.slice A3 k3 c3] 70)) (w3.heap.size+1) w3.heap.size q r K:=by
 have hs:=hb.size;obtain ⟨b1,b2,b3,b4⟩:=box2 w3 70 70 #[.bool g4,.slice A4 k4 c4] #[.bool g3,.slice A3 k3 c3]
 exact ⟨hS.below (hb.trans (b3.mono hs)),⟨⟨_,_,_,_,_,b2,h3.below b3⟩,⟨_,_,_,_,_,b1,h4.below b3⟩,by omega,by omega,by omega⟩⟩
theorem finC {N:Nat} (hS:LongSt w n1 A n c n2 B m d xs ys x y L M W) (hb:Below W.heap.size W w3) (h3:ZD w3 g3 A3 k3 c3 d3 q K) (h4:ZD w3 g4 A4 k4 c4 d4 r K) (hsz:w.heap.size+1+1+1<W.heap.size)
  (hN:Blk w3 N 70 #[.bool false,.slice none 0 0]) (hl:W.heap.size<=N):
  LongSt w n1 A n c n2 B m d xs ys x y L M (((w3.setCell ⟨N,0,none⟩ (.bool g3)).setCell ⟨N,1,none⟩ (.slice A3 k3 c3)).alloc (.cells #[.bool g4,.slice A4 k4 c4] 70))/\
  Two w (((w3.setCell ⟨N,0,none⟩ (.bool g3)).setCell ⟨N,1,none⟩ (.slice A3 k3 c3)).alloc (.cells #[.bool g4,.slice A4 k4 c4] 70)) N w3.heap.size q r K:=by
 have hs:=hb.size;have hlt:=hN.lt;have b1:=Blk.new ((w3.setCell ⟨N,0,none⟩ (.bool g3)).setCell ⟨N,1,none⟩ (.slice A3 k3 c3)) 70 #[.bool g4,.slice A4 k4 c4];simp only [World.size_setCell] at b1
 refine ⟨(hS.below hb).put hN (by omega) _ _ |>.below ((Below.refl _ _).alloc (Nat.le_refl _) _),⟨⟨g3,A3,k3,c3,d3,?_⟩,⟨g4,A4,k4,c4,d4,b1,(h4.put hN _ _).alloc _⟩,by omega,by omega,by omega⟩⟩
 exact (Var.mine h3 hN).below ((Below.refl _ _).alloc (Nat.le_refl _) _)
theorem finD {N:Nat} (hS:LongSt w n1 A n c n2 B m d xs ys x y L M W) (hb:Below W.heap.size W w3) (h3:ZD w3 g3 A3 k3 c3 d3 q K) (h4:ZD w3 g4 A4 k4 c4 d4 r K) (hsz:w.heap.size+1+1+1<W.heap.size)
  (hN:Blk w3 N 70 #[.bool false,.slice none 0 0]) (hl:W.heap.size<=N):
  LongSt w n1 A n c n2 B m d xs ys x y L M (((w3.setCell ⟨N,0,none⟩ (.bool g4)).setCell ⟨N,1,none⟩ (.slice A4 k4 c4)).alloc (.cells #[.bool g3,.slice A3 k3 c3] 70))/\
  Two w (((w3.setCell ⟨N,0,none⟩ (.bool g4)).setCell ⟨N,1,none⟩ (.slice A4 k4 c4)).alloc (.cells #[.bool g3,.slice A3 k3 c3] 70)) w3.heap.size N q r K:=by
 have hs:=hb.size;have hlt:=hN.lt;have b1:=Blk.new ((w3.setCell ⟨N,0,none⟩ (.bool g4)).setCell ⟨N,1,none⟩ (.slice A4 k4 c4)) 70 #[.bool g3,.slice A3 k3 c3];simp only [World.size_setCell] at b1
 refine ⟨(hS.below hb).put hN (by omega) _ _ |>.below ((Below.refl _ _).alloc (Nat.le_refl _) _),⟨⟨g3,A3,k3,c3,d3,b1,(h3.put hN _ _).alloc _⟩,⟨g4,A4,k4,c4,d4,?_⟩,by omega,by omega,by omega⟩⟩
 exact (Var.mine h4 hN).below ((Below.refl _ _).alloc (Nat.le_refl _) _)
theorem finE {N N':Nat} (hS:LongSt w n1 A n c n2 B m d xs ys x y L M W) (hb:Below W.heap.size W w3) (h3:ZD w3 g3 A3 k3 c3 d3 q K) (h4:ZD w3 g4 A4 k4 c4 d4 r K) (hsz:w.heap.size+1+1+1<W.heap.size)
  (hN:Blk w3 N 70 #[.bool false,.slice none 0 0]) (hl:W.heap.size<=N) (hN':Blk w3 N' 70 #[.bool false,.slice none 0 0]) (hl':W.heap.size<=N') (hne:N≠N'):
  LongSt w n1 A n c n2 B m d xs ys x y L M ((((w3.setCell ⟨N,0,none⟩ (.bool g3)).setCell ⟨N,1,none⟩ (.slice A3 k3 c3)).setCell ⟨N',0,none⟩ (.bool g4)).setCell ⟨N',1,none⟩ (.slice A4 k4 c4))/\
  Two w ((((w3.setCell ⟨N,0,none⟩ (.bool g3)).setCell ⟨N,1,none⟩ (.slice A3 k3 c3)).setCell ⟨N',0,none⟩ (.bool g4)).setCell ⟨N',1,none⟩ (.slice A4 k4 c4)) N N' q r K:=by
 have hf:Blk ((w3.setCell ⟨N,0,none⟩ (.bool g3)).setCell ⟨N,1,none⟩ (.slice A3 k3 c3)) N' 70 #[.bool false,.slice none 0 0]:=blk_put_far hN' (Ne.symm hne) _ _
 exact ⟨((hS.below hb).put hN (by omega) _ _).put hf (by omega) _ _,⟨⟨_,_,_,_,_,(Var.mine h3 hN).put hf hne _ _⟩,⟨_,_,_,_,_,Var.mine (h4.put hN _ _) hf⟩,hne,by omega,by omega⟩⟩
end
theorem divx_any (n1 n2:Bool) (A B:Option Addr) (n m c d:Nat) (xs ys:List Int) (x y:Int) (L M:Nat) (w:World) (ha:ZD w n1 A n c xs x L) (hb:ZD w n2 B m d ys y M) (hL:L<=900) (hM:M<=900) (hy:y≠0):
  Calls prog 76 #[.agg #[.bool n1,.slice A n c],.agg #[.bool n2,.slice B m d]] w (RetZZ w (x.fdiv y) (x.fmod y) (M+1000+64*L)):=by
 have hyp:0<dval ys:=by
  have h1:=dval_nonneg hb.canon.1;have h2:=hb.val
  rcases Int.lt_or_eq_of_le h1 with h|h
  ·exact h
  ·exact absurd (by rw [h2,<-h];simp) hy
 go_enter func76,ntmps76;have Ha:=hid ha;have Hb:=hid hb;clear ha hb
 go_upto_region 1 with fail
 obtain ⟨hq0,hq1,hq2,hq3,hbel,hsz⟩:=box4 w 70 #[.bool n1,.slice A n c] #[.bool n2,.slice B m d] #[.bool false,.slice none 0 0] #[.bool false,.slice none 0 0]
 have S0:Hid (LongSt w n1 A n c n2 B m d xs ys x y L M ((((w.alloc (Obj.cells #[Value.bool n1,Value.slice A n c] 70)).alloc (Obj.cells #[Value.bool n2,Value.slice B m d] 70)).alloc (Obj.cells #[Value.bool false,Value.slice none 0 0] 70)).alloc (Obj.cells #[Value.bool false,Value.slice none 0 0] 70))):=
  ⟨⟨hq0,Ha.out.below hbel⟩,⟨hq1,Hb.out.below hbel⟩,⟨hq2,hbel,by omega⟩,⟨hq3,hbel,by omega⟩⟩
 clear hq0 hq1 hq2 hq3 hbel;generalize (((w.alloc (Obj.cells #[Value.bool n1,Value.slice A n c] 70)).alloc (Obj.cells #[Value.bool n2,Value.slice B m d] 70)).alloc (Obj.cells #[Value.bool false,Value.slice none 0 0] 70)).alloc (Obj.cells #[Value.bool false,Value.slice none 0 0] 70)=W at*;have q0:W.cell? ⟨w.heap.size,0,none⟩=some (.bool n1):=S0.out.a.blk.cell 0;have q1:W.cell? ⟨w.heap.size,1,none⟩=some (.slice A n c):=S0.out.a.blk.cell 1;have q2:W.cell? ⟨w.heap.size+1,0,none⟩=some (.bool n2):=S0.out.b.blk.cell 0;have q3:W.cell? ⟨w.heap.size+1,1,none⟩=some (.slice B m d):=S0.out.b.blk.cell 1;have HA:=S0.out.a.zd;have HB:=S0.out.b.zd
 have l0:w.heap.size<W.heap.size:=by omega
 have l1:w.heap.size+1<W.heap.size:=by omega
 go_cut [6,7] (fun s6 s7 wx=>∃ (b6 b7:Nat) (qv rv:Int),s6= .pointer (some ⟨b6,0,none⟩)/\s7= .pointer (some ⟨b7,0,none⟩)/\LongSt w n1 A n c n2 B m d xs ys x y L M wx/\Two w wx b6 b7 qv rv (M+10+64*L)/\qv*dval ys+rv=dval xs/\0<=rv/\rv<dval ys)
 case first=>
  have kb0:Below W.heap.size W W.drew:=below_drew W
  go_region_held3 (fun w'=>(∀ b o,b<W.heap.size->w'.cell? ⟨b,o,none⟩=W.cell? ⟨b,o,none⟩)/\Below W.heap.size W w') (exact same_of (by go_grown))
   (first
    |(go_at_call 106;have tk:=tokA;refine (abs_any n2 B m d ys y M _ (by exact HB.below (by go_grown))).mono ?_;rintro e w2 ⟨v,rfl,⟨g2,A2,k2,c2,ds2,rfl,hz2⟩,hb2⟩;have kb2:=below_trans (W:=W) (by go_grown) (Nat.le_refl _) hb2;have ks2:=kb2.size;have tokB:True:=trivial;have hz1':ZD w2 g1 A1 k1 c1 ds1 (dval xs) L:=(by first|exact hz1.below hb2|exact (hz1.alloc _).below hb2|exact ((hz1.alloc _).alloc _).below hb2);have cr2:=@carryb w1 _ _ (by go_grown) hb2;(try (have g0:=cr2 pa;have pal2:=g0.lt;clear pa;have pa:=g0;clear g0));(try (have g0:=cr2 pb;have pbl2:=g0.lt;clear pb;have pb:=g0;clear g0));(try (have g0:=cr2 pc;have pcl2:=g0.lt;clear pc;have pc:=g0;clear g0));clear cr2;(first|(have nn:=nblk2 hb2;obtain ⟨⟨qa,qal⟩,qb,qbl⟩:=nn)|(have nn:=nblk2d hb2;obtain ⟨⟨qa,qal⟩,qb,qbl⟩:=nn)|(have nn:=nblk1 hb2;obtain ⟨qc,qcl⟩:=nn)|(have nn:=nblk1d hb2;obtain ⟨qc,qcl⟩:=nn)|skip))
    |(go_at_call 106;refine (abs_any n1 A n c xs x L _ (by exact HA.below (by go_grown))).mono ?_;rintro e w1 ⟨v,rfl,⟨g1,A1,k1,c1,ds1,rfl,hz1⟩,hb1⟩;have kb1:=below_trans (W:=W) (by go_grown) (Nat.le_refl _) hb1;have ks1:=kb1.size;have tokA:True:=trivial;(first|(have nn:=nblk2 hb1;obtain ⟨⟨pa,pal⟩,pb,pbl⟩:=nn)|(have nn:=nblk2d hb1;obtain ⟨⟨pa,pal⟩,pb,pbl⟩:=nn)|(have nn:=nblk1 hb1;obtain ⟨pc,pcl⟩:=nn)|(have nn:=nblk1d hb1;obtain ⟨pc,pcl⟩:=nn)|skip))
    |(go_at_call 105;refine (long_any g1 g2 A1 A2 k1 k2 c1 c2 ds1 ds2 (dval xs) (dval ys) L M _ (by first|exact hz1'|exact hz1'.alloc _|exact (hz1'.alloc _).alloc _) (by first|exact hz2|exact hz2.alloc _|exact (hz2.alloc _).alloc _) (Nat.le_trans hz1'.le (by omega)) (by omega) hyp).mono ?_;rintro e w3 ⟨v1,v2,qv,rv,rfl,⟨g3,A3,k3,c3,d3,rfl,hz3⟩,⟨g4,A4,k4,c4,d4,rfl,hz4⟩,hv,hr,hb3⟩;have kb3:=below_trans (W:=W) (by go_grown) (Nat.le_refl _) hb3;have ks3:=kb3.size;have Hv:=hid hv;clear hv;have cr3:=@carryb w2 _ _ (by go_grown) hb3;(try (have g0:=cr3 pa;have pal3:=g0.lt;clear pa;have pa:=g0;clear g0));(try (have g0:=cr3 pb;have pbl3:=g0.lt;clear pb;have pb:=g0;clear g0));(try (have g0:=cr3 pc;have pcl3:=g0.lt;clear pc;have pc:=g0;clear g0));(try (have g0:=cr3 qa;have qal3:=g0.lt;clear qa;have qa:=g0;clear g0));(try (have g0:=cr3 qb;have qbl3:=g0.lt;clear qb;have qb:=g0;clear g0));(try (have g0:=cr3 qc;have qcl3:=g0.lt;clear qc;have qc:=g0;clear g0));clear cr3;(first|(have nn:=nblk2 hb3;obtain ⟨⟨ra,ral⟩,rb,rbl⟩:=nn)|(have nn:=nblk2d hb3;obtain ⟨⟨ra,ral⟩,rb,rbl⟩:=nn)|(have nn:=nblk1 hb3;obtain ⟨rc,rcl⟩:=nn)|(have nn:=nblk1d hb3;obtain ⟨rc,rcl⟩:=nn)|skip);(try (have g0:=blk_cells pa;obtain ⟨pa0,pa1,pa2,pa3,pa4⟩:=g0));(try (have g0:=blk_cells pb;obtain ⟨pb0,pb1,pb2,pb3,pb4⟩:=g0));(try (have g0:=blk_cells pc;obtain ⟨pc0,pc1,pc2,pc3,pc4⟩:=g0));(try (have g0:=blk_cells qa;obtain ⟨qa0,qa1,qa2,qa3,qa4⟩:=g0));(try (have g0:=blk_cells qb;obtain ⟨qb0,qb1,qb2,qb3,qb4⟩:=g0));(try (have g0:=blk_cells qc;obtain ⟨qc0,qc1,qc2,qc3,qc4⟩:=g0));(try (have g0:=blk_cells ra;obtain ⟨ra0,ra1,ra2,ra3,ra4⟩:=g0));(try (have g0:=blk_cells rb;obtain ⟨rb0,rb1,rb2,rb3,rb4⟩:=g0));(try (have g0:=blk_cells rc;obtain ⟨rc0,rc1,rc2,rc3,rc4⟩:=g0))))
  all_goals
   have hvv:dval ds1=dval xs:=by
    have e1:=hz1.val;have e2:=HA.val
    cases g1
    ·rw [sg_false] at e1;exact e1.symm
    ·rw [sg_true] at e1
     have:=dval_nonneg hz1.canon.1;have:=dval_nonneg HA.canon.1;omega
   have hz3':=hz3.more (L':=M+10+64*L) (by have:=hz1'.le;omega)
   have hz4':=hz4.more (L':=M+10+64*L) (by have:=hz1'.le;omega)
   have hv2:qv*dval ys+rv=dval xs:=by rw [<-hvv];exact Hv.out
   clear hvv hz1 hz1' hz2 hz3 hz4 HA HB q0 q1 q2 q3
   go_wp2_with fail
   go_meet
   first
    |(have hF:=finE S0.out kb3 hz3' hz4' hsz pa (by omega) pb (by omega) (by omega);with_reducible exact ⟨_,_,qv,rv,rfl,rfl,hF.1,hF.2,hv2,hr.1,hr.2⟩)
    |(have hF:=finE S0.out kb3 hz3' hz4' hsz pb (by omega) pa (by omega) (by omega);with_reducible exact ⟨_,_,qv,rv,rfl,rfl,hF.1,hF.2,hv2,hr.1,hr.2⟩)
    |(have hF:=finE S0.out kb3 hz3' hz4' hsz qa (by omega) qb (by omega) (by omega);with_reducible exact ⟨_,_,qv,rv,rfl,rfl,hF.1,hF.2,hv2,hr.1,hr.2⟩)
    |(have hF:=finE S0.out kb3 hz3' hz4' hsz qb (by omega) qa (by omega) (by omega);with_reducible exact ⟨_,_,qv,rv,rfl,rfl,hF.1,hF.2,hv2,hr.1,hr.2⟩)
    |(have hF:=finE S0.out kb3 hz3' hz4' hsz ra (by omega) rb (by omega) (by omega);with_reducible exact ⟨_,_,qv,rv,rfl,rfl,hF.1,hF.2,hv2,hr.1,hr.2⟩)
    |(have hF:=finE S0.out kb3 hz3' hz4' hsz rb (by omega) ra (by omega) (by omega);with_reducible exact ⟨_,_,qv,rv,rfl,rfl,hF.1,hF.2,hv2,hr.1,hr.2⟩)
    |(have hF:=finE S0.out kb3 hz3' hz4' hsz pc (by omega) qc (by omega) (by omega);with_reducible exact ⟨_,_,qv,rv,rfl,rfl,hF.1,hF.2,hv2,hr.1,hr.2⟩)
    |(have hF:=finE S0.out kb3 hz3' hz4' hsz qc (by omega) pc (by omega) (by omega);with_reducible exact ⟨_,_,qv,rv,rfl,rfl,hF.1,hF.2,hv2,hr.1,hr.2⟩)
    |(have hF:=finE S0.out kb3 hz3' hz4' hsz pc (by omega) rc (by omega) (by omega);with_reducible exact ⟨_,_,qv,rv,rfl,rfl,hF.1,hF.2,hv2,hr.1,hr.2⟩)
    |(have hF:=finE S0.out kb3 hz3' hz4' hsz rc (by omega) pc (by omega) (by omega);with_reducible exact ⟨_,_,qv,rv,rfl,rfl,hF.1,hF.2,hv2,hr.1,hr.2⟩)
    |(have hF:=finE S0.out kb3 hz3' hz4' hsz qc (by omega) rc (by omega) (by omega);with_reducible exact ⟨_,_,qv,rv,rfl,rfl,hF.1,hF.2,hv2,hr.1,hr.2⟩)
    |(have hF:=finE S0.out kb3 hz3' hz4' hsz rc (by omega) qc (by omega) (by omega);with_reducible exact ⟨_,_,qv,rv,rfl,rfl,hF.1,hF.2,hv2,hr.1,hr.2⟩)
    |(have hF:=finC S0.out kb3 hz3' hz4' hsz pc (by omega);with_reducible exact ⟨_,_,qv,rv,rfl,rfl,hF.1,hF.2,hv2,hr.1,hr.2⟩)
    |(have hF:=finC S0.out kb3 hz3' hz4' hsz qc (by omega);with_reducible exact ⟨_,_,qv,rv,rfl,rfl,hF.1,hF.2,hv2,hr.1,hr.2⟩)
    |(have hF:=finC S0.out kb3 hz3' hz4' hsz rc (by omega);with_reducible exact ⟨_,_,qv,rv,rfl,rfl,hF.1,hF.2,hv2,hr.1,hr.2⟩)
    |(have hF:=finD S0.out kb3 hz3' hz4' hsz pc (by omega);with_reducible exact ⟨_,_,qv,rv,rfl,rfl,hF.1,hF.2,hv2,hr.1,hr.2⟩)
    |(have hF:=finD S0.out kb3 hz3' hz4' hsz qc (by omega);with_reducible exact ⟨_,_,qv,rv,rfl,rfl,hF.1,hF.2,hv2,hr.1,hr.2⟩)
    |(have hF:=finD S0.out kb3 hz3' hz4' hsz rc (by omega);with_reducible exact ⟨_,_,qv,rv,rfl,rfl,hF.1,hF.2,hv2,hr.1,hr.2⟩)
    |(have hF:=finA S0.out kb3 hz3' hz4' hsz;with_reducible exact ⟨_,_,qv,rv,rfl,rfl,hF.1,hF.2,hv2,hr.1,hr.2⟩)
    |(have hF:=finB S0.out kb3 hz3' hz4' hsz;with_reducible exact ⟨_,_,qv,rv,rfl,rfl,hF.1,hF.2,hv2,hr.1,hr.2⟩)
 case rest=>
  obtain ⟨b6,b7,qv,rv,rfl,rfl,hS,hT,hv,hr0,hr1⟩:=hcut;obtain ⟨⟨gq,Aq,kq,cq,dq,hq⟩,⟨gr,Ar,kr,cr,dr,hr⟩,hne,hlt,hlt'⟩:=hT;have HS:=hid hS;have HQ:=hid hq;have HR:=hid hr;have HV:=hid hv;clear hS hq hr hv q0 q1 q2 q3 HA HB l0 l1 S0 hsz;obtain ⟨q0,q1,q2,q3⟩:=HQ.out.cells;obtain ⟨r0,r1,r2,r3⟩:=HR.out.cells;have a0:=HS.out.a.blk.cell 0;have c0:=HS.out.b.blk.cell 0
  go_upto_if 20 with fail
  go_cut [] (fun wx=>∃ (g:Bool) (A':Option Addr) (k' c':Nat) (d':List Int),LongSt w n1 A n c n2 B m d xs ys x y L M wx/\Var wx b6 g A' k' c' d' (if n1=n2 then qv else -qv) (M+10+64*L)/\Var wx b7 gr Ar kr cr dr rv (M+10+64*L))
  case first=>
   cases h12:(n1 == n2)
   ·have e12:(!n1 == n2)=true:=by revert h12;cases n1<;>cases n2<;>simp
    have e12':n1≠n2:=by revert h12;cases n1<;>cases n2<;>simp
    have E:=hid e12';clear e12'
    go_wp2_with fail
    refine (neg_any _ _ _ _ _ _ _ wc HQ.out.zd).mono ?_
    rintro e w1 ⟨v,rfl,⟨g1,A1,k1,c1,d1,rfl,hz1⟩,hb1⟩;have HS1:=hid (HS.out.below hb1);have HQ1:=hid (HQ.out.below hb1);have HR1:=hid (HR.out.below hb1);clear q0 q1 q2 q3 r0 r1 r2 r3;obtain ⟨q0,q1,q2,q3⟩:=HQ1.out.cells
    go_wp2_with fail
    go_meet
    exact ⟨g1,A1,k1,c1,d1,HS1.out.put HQ1.out.blk hlt _ _,by rw [if_neg E.out];exact Var.mine hz1 HQ1.out.blk,HR1.out.put HQ1.out.blk (Ne.symm hne) _ _⟩
   ·have e12:(!n1 == n2)=false:=by revert h12;cases n1<;>cases n2<;>simp
    have e12':n1=n2:=by revert h12;cases n1<;>cases n2<;>simp
    have E:=hid e12';clear e12'
    go_wp2_with fail
    go_meet
    exact ⟨gq,Aq,kq,cq,dq,HS.out,by rw [if_pos E.out];exact HQ.out,HR.out⟩
  case rest=>
   obtain ⟨g6,A6,k6,c6,d6,hS,hq,hr⟩:=hcut;clear HS HQ HR q0 q1 q2 q3 r0 r1 r2 r3 a0 c0;have HS:=hid hS;have HQ:=hid hq;have HR:=hid hr;clear hS hq hr;obtain ⟨r0,r1,r2,r3⟩:=HR.out.cells;have a0:=HS.out.a.blk.cell 0
   go_upto_if 24 with fail
   go_cut [] (fun wx=>∃ (g:Bool) (A':Option Addr) (k' c':Nat) (d':List Int),LongSt w n1 A n c n2 B m d xs ys x y L M wx/\Var wx b6 g6 A6 k6 c6 d6 (if n1=n2 then qv else -qv) (M+10+64*L)/\Var wx b7 g A' k' c' d' (if n1=true then -rv else rv) (M+10+64*L))
   case first=>
    cases n1
    ·go_wp2_with fail
     go_meet;exact ⟨gr,Ar,kr,cr,dr,HS.out,HQ.out,HR.out⟩
    ·go_wp2_with fail
     refine (neg_any _ _ _ _ _ _ _ _ HR.out.zd).mono ?_
     rintro e w1 ⟨v,rfl,⟨g1,A1,k1,c1,d1,rfl,hz1⟩,hb1⟩;have HS1:=hid (HS.out.below hb1);have HQ1:=hid (HQ.out.below hb1);have HR1:=hid (HR.out.below hb1);clear r0 r1 r2 r3;obtain ⟨r0,r1,r2,r3⟩:=HR1.out.cells
     go_wp2_with fail
     go_meet;exact ⟨g1,A1,k1,c1,d1,HS1.out.put HR1.out.blk hlt' _ _,HQ1.out.put HR1.out.blk hne _ _,Var.mine hz1 HR1.out.blk⟩
   case rest=>
    obtain ⟨g7,A7,k7,c7,d7,hS,hq,hr⟩:=hcut;clear HS HQ HR r0 r1 r2 r3 a0;have HS:=hid hS;have HQ:=hid hq;have HR:=hid hr;clear hS hq hr;obtain ⟨r0,r1,r2,r3⟩:=HR.out.cells;obtain ⟨q0,q1,q2,q3⟩:=HQ.out.cells;obtain ⟨c0,c1',c2,c3⟩:=HS.out.b.cells;have hX:=Ha.out.val;have hY:=Hb.out.val;have hsg:=HR.out.zd.sign;have HX:=hid hX;have HY:=hid hY;have Hsg:=hid hsg;clear hX hY hsg
    by_cases hadj:(0<k7/\g7≠n2)
    ·obtain ⟨hk7,hg7⟩:=hadj
     have hgb:(!g7 == n2)=true:=by revert hg7;cases g7<;>cases n2<;>simp
     have HG:=hid hg7;clear hg7;go_wp2;have HSa:Hid (LongSt w n1 A n c n2 B m d xs ys x y L M wc.drew):=HS.out.below (below_drew _)
     have HQa:Hid (Var wc.drew b6 g6 A6 k6 c6 d6 (if n1=n2 then qv else -qv) (M+10+64*L)):=HQ.out.below (below_drew _)
     have HRa:Hid (Var wc.drew b7 g7 A7 k7 c7 d7 (if n1=true then -rv else rv) (M+10+64*L)):=HR.out.below (below_drew _)
     go_region_with (first
      |(go_at_call 73;refine (ofU_any 1 wc.drew (by omega) (by omega)).mono ?_;rintro e wa ⟨v,rfl,⟨gf,Af,kf,cf,df,rfl,hzf⟩,hbg⟩;have HSb:=hid (HSa.out.below hbg);have HQb:=hid (HQa.out.below hbg);have HRb:=hid (HRa.out.below hbg);obtain ⟨u0,u1,u2,u3⟩:=HQb.out.cells)
      |(go_at_call 72;refine (sub_any _ _ _ _ _ _ _ _ _ _ _ _ _ _ wa HQb.out.zd hzf (by omega) (by omega)).mono ?_;rintro e wb ⟨v,rfl,⟨gg,Ag,kg,cg,dg',rfl,hzg⟩,hbh⟩;have HSc:=hid (HSb.out.below hbh);have HQc:=hid (HQb.out.below hbh);have HRc:=hid (HRb.out.below hbh);obtain ⟨v0,v1,v2,v3⟩:=HQc.out.cells))
     all_goals
      have HSd:=hid (HSc.out.put HQc.out.blk hlt (.bool gg) (.slice Ag kg cg));have HRd:=hid (HRc.out.put HQc.out.blk (Ne.symm hne) (.bool gg) (.slice Ag kg cg));have HQd:=hid (Var.mine hzg HQc.out.blk);clear hzg hzf hbg hbh HSa HSb HSc HQa HQb HQc HRa HRb HRc u0 u1 u2 u3 v0 v1 v2 v3 q0 q1 q2 q3 r0 r1 r2 r3 c0 c1' c2 c3 HS HQ HR;obtain ⟨r0,r1,r2,r3⟩:=HRd.out.cells;obtain ⟨c0,c1',c2,c3⟩:=HSd.out.b.cells
      go_wp2_with fail
      generalize (wb.setCell ⟨b6,0,none⟩ (Value.bool gg)).setCell ⟨b6,1,none⟩ (Value.slice Ag kg cg)=w6 at*
      refine (add_any _ _ _ _ _ _ _ _ _ _ _ _ _ _ w6 HRd.out.zd HSd.out.b.zd (by omega) (by omega)).mono ?_
      rintro e w7 ⟨v,rfl,⟨gh,Ah,kh,ch,dh,rfl,hzh⟩,hbi⟩;have HSe:=hid (HSd.out.below hbi);have HQe:=hid (HQd.out.below hbi);have HRe:=hid (HRd.out.below hbi);clear r0 r1 r2 r3 c0 c1' c2 c3;obtain ⟨r0,r1,r2,r3⟩:=HRe.out.cells;have HSf:=hid (HSe.out.put HRe.out.blk hlt' (.bool gh) (.slice Ah kh ch));have HQf:=hid (HQe.out.put HRe.out.blk hne (.bool gh) (.slice Ah kh ch));have HRf:=hid (Var.mine hzh HRe.out.blk);clear hzh hbi HSd HSe HQd HQe HRd HRe
      go_wp2_with fail
      generalize (w7.setCell ⟨b7,0,none⟩ (Value.bool gh)).setCell ⟨b7,1,none⟩ (Value.slice Ah kh ch)=w8 at*;clear r0 r1 r2 r3;obtain ⟨q0,q1,q2,q3⟩:=HQf.out.cells;obtain ⟨r0,r1,r2,r3⟩:=HRf.out.cells;go_wp2;obtain ⟨u0,u1,u2,u3⟩:=HSf.out.p.cells;obtain ⟨v0,v1,v2,v3⟩:=HSf.out.q.cells
      go_region_held3 (fun w'=>w'.cell? ⟨b6,0,none⟩=some (.bool gg)/\w'.cell? ⟨b6,1,none⟩=some (.slice Ag kg cg)/\w'.cell? ⟨b7,0,none⟩=some (.bool gh)/\w'.cell? ⟨b7,1,none⟩=some (.slice Ah kh ch)) (first|(simp [*];done)|exact keep4_set (by assumption) (by dsimp only;omega) (by dsimp only;omega) (by dsimp only;omega) (by dsimp only;omega) _ _) (fail)
      go_wp2;have hp:=HSf.out.p
      have hq:=HSf.out.q.put (b':=w.heap.size+1+1) (by omega) (by omega) (.bool gg) (.slice Ag kg cg)
      have hz1:=((HQf.out.zd.put hp.blk (.bool gg) (.slice Ag kg cg)).put hq.blk (.bool gh) (.slice Ah kh ch)).below (below_drew _);have hz2:=((HRf.out.zd.put hp.blk (.bool gg) (.slice Ag kg cg)).put hq.blk (.bool gh) (.slice Ah kh ch)).below (below_drew _);have hbl:=((((hp.bel.setCell (p:=⟨w.heap.size+1+1,0,none⟩) hp.le (.bool gg)).setCell (p:=⟨w.heap.size+1+1,1,none⟩) hp.le (.slice Ag kg cg)).setCell (p:=⟨w.heap.size+1+1+1,0,none⟩) hq.le (.bool gh)).setCell (p:=⟨w.heap.size+1+1+1,1,none⟩) hq.le (.slice Ah kh ch)).drew
      refine bodyPost_ret (v:= .tuple #[.agg #[.bool gg,.slice Ag kg cg],.agg #[.bool gh,.slice Ah kh ch]]) (by simp [results,Tryz.results76,go_sem,u0,u1,v0,v1]) rfl ?_
      have hfd:=div_adj HX.out HY.out HV.out hr0 hr1 Hsg.out hk7 HG.out;rw [hfd.1,hfd.2]
      exact ⟨_,_,rfl,⟨_,_,_,_,_,rfl,hz1.more (by omega)⟩,⟨_,_,_,_,_,rfl,hz2.more (by omega)⟩,hbl⟩
    ·have hgb:k7=0\/(0<k7/\(!g7 == n2)=false):=by
      rcases Nat.eq_zero_or_pos k7 with h|h
      ·exact .inl h
      ·refine .inr ⟨h,?_⟩
       have:g7=n2:=Classical.byContradiction fun e=>hadj ⟨h,e⟩
       subst this;cases g7<;>rfl
     have hfd0:=div_not HX.out HY.out HV.out hr0 hr1 Hsg.out hadj;have HFD:=hid hfd0;clear hfd0 Hsg;have HSf:=HS;have HQf:=HQ;have HRf:=HR;clear hadj HS HQ HR
     rcases hgb with rfl|⟨hk7,hgb⟩
     ·go_wp2
      obtain ⟨u0,u1,u2,u3⟩:=HSf.out.p.cells;obtain ⟨v0,v1,v2,v3⟩:=HSf.out.q.cells
      go_region_held3 (fun w'=>w'.cell? ⟨b6,0,none⟩=some (.bool g6)/\w'.cell? ⟨b6,1,none⟩=some (.slice A6 k6 c6)/\w'.cell? ⟨b7,0,none⟩=some (.bool g7)/\w'.cell? ⟨b7,1,none⟩=some (.slice A7 0 c7)) (first|(simp [*];done)|exact keep4_set (by assumption) (by dsimp only;omega) (by dsimp only;omega) (by dsimp only;omega) (by dsimp only;omega) _ _) (fail)
      go_wp2;have hp:=HSf.out.p
      have hq:=HSf.out.q.put (b':=w.heap.size+1+1) (by omega) (by omega) (.bool g6) (.slice A6 k6 c6)
      have hz1:=((HQf.out.zd.put hp.blk (.bool g6) (.slice A6 k6 c6)).put hq.blk (.bool g7) (.slice A7 0 c7)).below (below_drew _);have hz2:=((HRf.out.zd.put hp.blk (.bool g6) (.slice A6 k6 c6)).put hq.blk (.bool g7) (.slice A7 0 c7)).below (below_drew _);have hbl:=((((hp.bel.setCell (p:=⟨w.heap.size+1+1,0,none⟩) hp.le (.bool g6)).setCell (p:=⟨w.heap.size+1+1,1,none⟩) hp.le (.slice A6 k6 c6)).setCell (p:=⟨w.heap.size+1+1+1,0,none⟩) hq.le (.bool g7)).setCell (p:=⟨w.heap.size+1+1+1,1,none⟩) hq.le (.slice A7 0 c7)).drew
      refine bodyPost_ret (v:= .tuple #[.agg #[.bool g6,.slice A6 k6 c6],.agg #[.bool g7,.slice A7 0 c7]]) (by simp [results,Tryz.results76,go_sem,u0,u1,v0,v1]) rfl ?_
      have hfd:=HFD.out;rw [hfd.1,hfd.2]
      exact ⟨_,_,rfl,⟨_,_,_,_,_,rfl,hz1.more (by omega)⟩,⟨_,_,_,_,_,rfl,hz2.more (by omega)⟩,hbl⟩
     ·go_wp2
      obtain ⟨u0,u1,u2,u3⟩:=HSf.out.p.cells;obtain ⟨v0,v1,v2,v3⟩:=HSf.out.q.cells
      go_region_held3 (fun w'=>w'.cell? ⟨b6,0,none⟩=some (.bool g6)/\w'.cell? ⟨b6,1,none⟩=some (.slice A6 k6 c6)/\w'.cell? ⟨b7,0,none⟩=some (.bool g7)/\w'.cell? ⟨b7,1,none⟩=some (.slice A7 k7 c7)) (first|(simp [*];done)|exact keep4_set (by assumption) (by dsimp only;omega) (by dsimp only;omega) (by dsimp only;omega) (by dsimp only;omega) _ _) (fail)
      go_wp2;have hp:=HSf.out.p
      have hq:=HSf.out.q.put (b':=w.heap.size+1+1) (by omega) (by omega) (.bool g6) (.slice A6 k6 c6)
      have hz1:=((HQf.out.zd.put hp.blk (.bool g6) (.slice A6 k6 c6)).put hq.blk (.bool g7) (.slice A7 k7 c7)).below (below_drew _);have hz2:=((HRf.out.zd.put hp.blk (.bool g6) (.slice A6 k6 c6)).put hq.blk (.bool g7) (.slice A7 k7 c7)).below (below_drew _);have hbl:=((((hp.bel.setCell (p:=⟨w.heap.size+1+1,0,none⟩) hp.le (.bool g6)).setCell (p:=⟨w.heap.size+1+1,1,none⟩) hp.le (.slice A6 k6 c6)).setCell (p:=⟨w.heap.size+1+1+1,0,none⟩) hq.le (.bool g7)).setCell (p:=⟨w.heap.size+1+1+1,1,none⟩) hq.le (.slice A7 k7 c7)).drew
      refine bodyPost_ret (v:= .tuple #[.agg #[.bool g6,.slice A6 k6 c6],.agg #[.bool g7,.slice A7 k7 c7]]) (by simp [results,Tryz.results76,go_sem,u0,u1,v0,v1]) rfl ?_
      have hfd:=HFD.out;rw [hfd.1,hfd.2]
      exact ⟨_,_,rfl,⟨_,_,_,_,_,rfl,hz1.more (by omega)⟩,⟨_,_,_,_,_,rfl,hz2.more (by omega)⟩,hbl⟩
end RefZ
end
end Go.Proofs.YtiiekaehbahenaaGreatDoor
