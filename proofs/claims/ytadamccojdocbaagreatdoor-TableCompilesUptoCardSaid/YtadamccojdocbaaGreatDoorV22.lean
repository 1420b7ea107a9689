/-
  Contracts of the code that the law reaches, and plain laws. Conditions: as each says.
-/
import Derived.Test.YtadamccojdocbaaGreatDoorV21
set_option linter.all false
set_option maxHeartbeats 40000000
set_option maxRecDepth 100000
namespace Go.Proofs.YtadamccojdocbaaGreatDoor
open Lib (hid)
open Tryz
section
section
namespace Cmq
open Go.RowKit Mem Civ Mom Img Rul Ahd Trn Src Snd Att Rgt Abr
attribute [local go_sem] Oper.semAt_some
theorem erasK_bd {s:Src} {first:Phase} {till year:Int} {es:List Era} (h:∀ x∈es,EraW s x):∀ k,k<=es.length->-9000000000000<=(erasK s first till year es k).2/\(erasK s first till year es k).2<=9000000000000
 |0,_=>by simp [erasK,erasPut,everT]
 |k+1,hk=>by
  rw [erasK_succ _ _ _ _ _ _ hk];exact (h _ (List.getElem_mem hk)).fin
def bodyPostN (F:Fence) (n:Nat) (P:Program) (fn:Func) (R:Ending->World->Prop):Exit->Act->World->Prop
 | .panic _,_,_=>False
 | .normal,a,w=>bodyPostM F n P fn R .normal a w
 | .ret,a,w=>bodyPostM F n P fn R .ret a w
 |_,_,_=>False
theorem callsIn_of_wp_noPanic {F:Fence} {n:Nat} {P:Program} {f:FuncId} {fn:Func} {c:Code} {args:Array Value} {w:World} {R:Ending->World->Prop}
  (hf:P.funcs[f]?=some fn) (hb:fn.body=some c) (hF:F.fn f)
  (h:c.wpIn F n P (bodyPostN F n P fn R) { tmps:=args++Array.replicate (fn.ntmps - args.size) undef,defers:=[] } w) (hro:F.round=none:=by rfl):CallsIn F n P f args w R:=by
 refine callsIn_of_wp_marks hf hb hF (wpIn_mono h ?_) hro
 rintro e a w' hp
 cases e with
 |normal=>exact hp
 |ret=>exact hp
 |panic _=>exact hp.elim
 |exit _=>exact hp.elim
 |goto _=>exact hp.elim
 |outgrown=>exact hp.elim
def frC (v0 v1 v2 v4 v5 v6 v7 v8 v10 v11 v73 v74 v75:Value) (u:Nat->Value):Array Value:=#[v0,v1,v2,u 3,v4,v5,v6,v7,v8,u 9,v10,v11,u 12,u 13,u 14,u 15,u 16,u 17,u 18,u 19,u 20,u 21,u 22,u 23,u 24,u 25,u 26,u 27,u 28,u 29,u 30,u 31,u 32,u 33,u 34,u 35,u 36,u 37,u 38,u 39,u 40,u 41,u 42,u 43,u 44,u 45,u 46,u 47,u 48,u 49,u 50,u 51,u 52,u 53,u 54,u 55,u 56,u 57,u 58,u 59,u 60,u 61,u 62,u 63,u 64,u 65,u 66,u 67,u 68,u 69,u 70,u 71,u 72,v73,v74,v75,u 76,u 77,u 78,u 79,u 80,u 81,u 82,u 83,u 84,u 85,u 86,u 87,u 88,u 89,u 90,u 91,u 92,u 93,u 94,u 95,u 96,u 97,u 98,u 99,u 100,u 101,u 102,u 103,u 104,u 105,u 106,u 107,u 108,u 109,u 110,u 111,u 112,u 113,u 114,u 115,u 116,u 117,u 118,u 119,u 120,u 121,u 122,u 123,u 124,u 125,u 126,u 127,u 128,u 129,u 130,u 131,u 132,u 133,u 134,u 135,u 136,u 137,u 138,u 139,u 140,u 141,u 142,u 143,u 144,u 145,u 146,u 147,u 148,u 149,u 150,u 151,u 152,u 153,u 154,u 155,u 156,u 157,u 158,u 159,u 160,u 161,u 162,u 163,u 164,u 165,u 166,u 167,u 168,u 169,u 170,u 171,u 172,u 173,u 174,u 175,u 176,u 177,u 178,u 179,u 180,u 181,u 182,u 183,u 184,u 185,u 186,u 187,u 188,u 189,u 190,u 191,u 192,u 193,u 194,u 195,u 196,u 197,u 198,u 199,u 200,u 201]
theorem act_fr {v0 v1 v2 v4 v5 v6 v7 v8 v10 v11 v73 v74 v75:Value} {T:Array Value} {ds:List Deferred} (h:T=frC v0 v1 v2 v4 v5 v6 v7 v8 v10 v11 v73 v74 v75 (fun n=>T.getD n undef)):∃ u,({ tmps:=T,defers:=ds }:Act)={ tmps:=frC v0 v1 v2 v4 v5 v6 v7 v8 v10 v11 v73 v74 v75 u,defers:=ds }:=⟨_,by rw [<-h]⟩
def frB (v10 v11 v13 v14 v15 v19:Value) (u:Nat->Value):Array Value:=#[u 0,u 1,u 2,u 3,u 4,u 5,u 6,u 7,u 8,u 9,v10,v11,u 12,v13,v14,v15,u 16,u 17,u 18,v19,u 20,u 21,u 22,u 23,u 24,u 25,u 26,u 27,u 28,u 29,u 30,u 31,u 32,u 33,u 34,u 35,u 36,u 37,u 38,u 39,u 40,u 41,u 42,u 43,u 44,u 45,u 46,u 47,u 48,u 49,u 50,u 51,u 52,u 53,u 54,u 55,u 56,u 57,u 58,u 59,u 60,u 61,u 62,u 63,u 64,u 65,u 66,u 67,u 68,u 69,u 70,u 71,u 72,u 73,u 74,u 75,u 76,u 77,u 78,u 79,u 80,u 81,u 82,u 83,u 84,u 85,u 86,u 87,u 88,u 89,u 90,u 91,u 92,u 93,u 94,u 95,u 96,u 97,u 98,u 99,u 100,u 101,u 102,u 103,u 104,u 105,u 106,u 107,u 108,u 109,u 110,u 111,u 112,u 113,u 114,u 115,u 116,u 117,u 118,u 119,u 120,u 121,u 122,u 123,u 124,u 125,u 126,u 127,u 128,u 129,u 130,u 131,u 132,u 133,u 134,u 135,u 136,u 137,u 138,u 139,u 140,u 141,u 142,u 143,u 144,u 145,u 146,u 147,u 148,u 149,u 150,u 151,u 152,u 153,u 154,u 155,u 156,u 157,u 158,u 159,u 160,u 161,u 162,u 163,u 164,u 165,u 166,u 167,u 168,u 169,u 170,u 171,u 172,u 173,u 174,u 175,u 176,u 177,u 178,u 179,u 180,u 181,u 182,u 183,u 184,u 185,u 186,u 187,u 188,u 189,u 190,u 191,u 192,u 193,u 194,u 195,u 196,u 197,u 198,u 199,u 200,u 201]
theorem act_fb {v10 v11 v13 v14 v15 v19:Value} {T:Array Value} {ds:List Deferred} (h:T=frB v10 v11 v13 v14 v15 v19 (fun n=>T.getD n undef)):∃ u,({ tmps:=T,defers:=ds }:Act)={ tmps:=frB v10 v11 v13 v14 v15 v19 u,defers:=ds }:=⟨_,by rw [<-h]⟩
theorem own_kr {B0 base size n:Nat} {w w':World} {e:TypeId} {v:Value} {xs:List Value} (h:w.ownsRow base e size v n xs) (hk:Kr B0 w w') (h1:e≠97) (h2:e≠81) (h3:e≠133):w'.ownsRow base e size v n xs:=by
 refine ⟨h.1,?_⟩
 rcases h.2 with h0|⟨g,cap,cur,rfl,hb,hg,rest⟩
 ·exact .inl h0
 ·exact .inr ⟨g,cap,cur,rfl,hb,hk.cells g _ _ _ hg h1 h2 h3,rest⟩
theorem frm_set {w W:World} {src tab zon:Array Value} {bz bm bb:Nat} {Ds:List Nat} {b0:Value} (h:FrM w src tab zon bz bm Ds W) (hb:Blk W bb 2 #[b0]) (hl:bm+1<bb) (v:Value):FrM w src tab zon bz bm Ds (W.setCell ⟨bb,0,none⟩ v)/\Blk (W.setCell ⟨bb,0,none⟩ v) bb 2 #[v]:=by
 have h1:=h.fr.lo;have h2:=h.lom
 refine ⟨⟨⟨h.fr.src.far (by simp<;>omega) _,h.fr.res.far (by simp<;>omega) _,h.fr.zon.far (by simp<;>omega) _,h.fr.bel.setCell (by simp<;>omega) _,h.fr.lo⟩,h.mp.far (by simp<;>omega) _,h.lom,⟨h.mks.nod,fun D hD=>?_⟩⟩,by simpa using hb.set_ 0 v⟩
 obtain ⟨g1,g2⟩:=h.mks.at_ D hD
 refine ⟨g1,?_⟩
 rw [Below.heap_setCell W _ v D (fun e=>by
  have e2:W.heap[bb]?=_:=hb
  have e3:D=bb:=by simpa using e
  rw [e3,e2] at g2
  cases g2)]
 exact g2
theorem mo_set {W:World} {B b bb:Nat} {nm:ByteArray} {first:Phase} {till:Int} {tv:Value} {off:Int} {fm:ByteArray} {m:List Shift×Bool} {b0:Value} (h:Mo B b nm first till tv off fm m W) (hb:Blk W bb 2 #[b0]) (hl:b<bb) (v:Value):Mo B b nm first till tv off fm m (W.setCell ⟨bb,0,none⟩ v):=by
 obtain ⟨s,h1,h2⟩:=h
 exact ⟨s,h1.far (by simp<;>omega) _,ownsRow_setCell_other h2 (a:=⟨bb,0,none⟩) (own_blk_ne h2 hb (by decide)) _⟩
def frT (v4 v10 v21 v164 v165 v166:Value) (u:Nat->Value):Array Value:=#[u 0,u 1,u 2,u 3,v4,u 5,u 6,u 7,u 8,u 9,v10,u 11,u 12,u 13,u 14,u 15,u 16,u 17,u 18,u 19,u 20,v21,u 22,u 23,u 24,u 25,u 26,u 27,u 28,u 29,u 30,u 31,u 32,u 33,u 34,u 35,u 36,u 37,u 38,u 39,u 40,u 41,u 42,u 43,u 44,u 45,u 46,u 47,u 48,u 49,u 50,u 51,u 52,u 53,u 54,u 55,u 56,u 57,u 58,u 59,u 60,u 61,u 62,u 63,u 64,u 65,u 66,u 67,u 68,u 69,u 70,u 71,u 72,u 73,u 74,u 75,u 76,u 77,u 78,u 79,u 80,u 81,u 82,u 83,u 84,u 85,u 86,u 87,u 88,u 89,u 90,u 91,u 92,u 93,u 94,u 95,u 96,u 97,u 98,u 99,u 100,u 101,u 102,u 103,u 104,u 105,u 106,u 107,u 108,u 109,u 110,u 111,u 112,u 113,u 114,u 115,u 116,u 117,u 118,u 119,u 120,u 121,u 122,u 123,u 124,u 125,u 126,u 127,u 128,u 129,u 130,u 131,u 132,u 133,u 134,u 135,u 136,u 137,u 138,u 139,u 140,u 141,u 142,u 143,u 144,u 145,u 146,u 147,u 148,u 149,u 150,u 151,u 152,u 153,u 154,u 155,u 156,u 157,u 158,u 159,u 160,u 161,u 162,u 163,v164,v165,v166,u 167,u 168,u 169,u 170,u 171,u 172,u 173,u 174,u 175,u 176,u 177,u 178,u 179,u 180,u 181,u 182,u 183,u 184,u 185,u 186,u 187,u 188,u 189,u 190,u 191,u 192,u 193,u 194,u 195,u 196,u 197,u 198,u 199,u 200,u 201]
theorem act_ft {v4 v10 v21 v164 v165 v166:Value} {T:Array Value} {ds:List Deferred} (h:T=frT v4 v10 v21 v164 v165 v166 (fun n=>T.getD n undef)):∃ u,({ tmps:=T,defers:=ds }:Act)={ tmps:=frT v4 v10 v21 v164 v165 v166 u,defers:=ds }:=⟨_,by rw [<-h]⟩
theorem act_fu {v4 v10 v21 v164 v165 v166:Value} {T:Array Value} (h:T=frT v4 v10 v21 v164 v165 v166 (fun n=>T.getD n undef)):∃ u,T=frT v4 v10 v21 v164 v165 v166 u:=⟨_,h⟩
structure Kx (b:Nat) (w W:World):Prop where
 size:w.heap.size<=W.heap.size
 same:∀ k,k<w.heap.size->k≠b->W.heap[k]?=w.heap[k]?
theorem Kx.refl (b:Nat) (w:World):Kx b w w:=⟨Nat.le_refl _,fun _ _ _=>rfl⟩
theorem Kx.alloc {b:Nat} {w W:World} (h:Kx b w W) (o:Obj):Kx b w (W.alloc o):=⟨by have:=h.size;simp;omega,fun k h1 h2=>(Below.heap_alloc _ _ _ (Nat.lt_of_lt_of_le h1 h.size)).trans (h.same k h1 h2)⟩
theorem Kx.drew {b:Nat} {w W:World} (h:Kx b w W):Kx b w W.drew:=⟨h.size,h.same⟩
theorem Kx.grown {b:Nat} {w W W':World} {row:Option Nat} (h:Kx b w W) (hg:W.grownBy W' row) (hr:∀ r,row=some r->w.heap.size<=r):Kx b w W':=
 ⟨Nat.le_trans h.size hg.size,fun k h1 h2=>(hg.block k (Nat.lt_of_lt_of_le h1 h.size) (fun e=>by have:=hr k e.symm;omega)).trans (h.same k h1 h2)⟩
theorem Kx.set {b:Nat} {w W:World} (h:Kx b w W) (i:Nat) (v:Value):Kx b w (W.setCell ⟨b,i,none⟩ v):=
 ⟨by have:=h.size;simp;omega,fun k h1 h2=>(Below.heap_setCell W ⟨b,i,none⟩ v k (fun e=>h2 (by simpa using e))).trans (h.same k h1 h2)⟩
theorem Kx.blk {b g:Nat} {w W:World} {t:TypeId} {cs:Array Value} (h:Kx b w W) (hb:Blk w g t cs) (hg:g≠b):Blk W g t cs:=(h.same g hb.lt hg).trans hb
theorem Kx.own {b B n size:Nat} {w W:World} {e:TypeId} {v:Value} {xs:List Value} (h:Kx b w W) (ho:w.ownsRow B e size v n xs) (hne:v.ownBlock≠some b):W.ownsRow B e size v n xs:=by
 refine ⟨ho.1,?_⟩
 rcases ho.2 with h0|⟨g,cap,cur,rfl,hb,hg,rest⟩
 ·exact .inl h0
 ·exact .inr ⟨g,cap,cur,rfl,hb,(h.same g (Array.getElem?_eq_some_iff.1 hg).1 (fun e=>hne (by simp [Value.ownBlock,e]))).trans hg,rest⟩
theorem Kx.mks {b B:Nat} {w W:World} {Ds:List Nat} (h:Kx b w W) (hm:MkC B Ds w) (hb:b<B):MkC B Ds W:=⟨hm.nod,fun D hD=>by
 obtain ⟨h1,h2⟩:=hm.at_ D hD
 exact ⟨h1,(h.same D (Array.getElem?_eq_some_iff.1 h2).1 (by omega)).trans h2⟩⟩
theorem MkC.set {B:Nat} {Ds:List Nat} {W:World} (h:MkC B Ds W) {p:Addr} (hp:p.block<B) (u:Value):MkC B Ds (W.setCell p u):=⟨h.nod,fun D hD=>by
 obtain ⟨h1,h2⟩:=h.at_ D hD
 exact ⟨h1,(Below.heap_setCell W p u D (by omega)).trans h2⟩⟩
theorem own_set9 {W:World} {B n size R0:Nat} {e:TypeId} {v:Value} {xs:List Value} (h:W.ownsRow B e size v n xs) (hne:v.ownBlock≠some R0) (a0 a1 a2 a3 a4 a5 a6 a7 a8:Value):(((((((((W.setCell ⟨R0,0,none⟩ a0).setCell ⟨R0,1,none⟩ a1).setCell ⟨R0,2,none⟩ a2).setCell ⟨R0,3,none⟩ a3).setCell ⟨R0,4,none⟩ a4).setCell ⟨R0,5,none⟩ a5).setCell ⟨R0,6,none⟩ a6).setCell ⟨R0,7,none⟩ a7).setCell ⟨R0,8,none⟩ a8).ownsRow B e size v n xs:=
 ownsRow_setCell_other (ownsRow_setCell_other (ownsRow_setCell_other (ownsRow_setCell_other (ownsRow_setCell_other (ownsRow_setCell_other (ownsRow_setCell_other (ownsRow_setCell_other (ownsRow_setCell_other h (a:=⟨R0,0,none⟩) hne _) (a:=⟨R0,1,none⟩) hne _) (a:=⟨R0,2,none⟩) hne _) (a:=⟨R0,3,none⟩) hne _) (a:=⟨R0,4,none⟩) hne _) (a:=⟨R0,5,none⟩) hne _) (a:=⟨R0,6,none⟩) hne _) (a:=⟨R0,7,none⟩) hne _) (a:=⟨R0,8,none⟩) hne _
theorem mks_set {B R0:Nat} {Ds:List Nat} {W:World} (hR:R0<B) (h:MkC B Ds W) (a0 a1 a2 a3 a4 a5 a6 a7 a8:Value):MkC B Ds (((((((((W.setCell ⟨R0,0,none⟩ a0).setCell ⟨R0,1,none⟩ a1).setCell ⟨R0,2,none⟩ a2).setCell ⟨R0,3,none⟩ a3).setCell ⟨R0,4,none⟩ a4).setCell ⟨R0,5,none⟩ a5).setCell ⟨R0,6,none⟩ a6).setCell ⟨R0,7,none⟩ a7).setCell ⟨R0,8,none⟩ a8):=
 ((((((((h.set hR _).set hR _).set hR _).set hR _).set hR _).set hR _).set hR _).set hR _).set hR _
theorem then_normal {K:Act->World->Prop} {e:Exit} {a:Act} {w:World} (h:Exit.then K (fun _ _ _=>False) e a w):e= .normal/\K a w:=by
 cases e with
 |normal=>exact ⟨rfl,h⟩
 |_=>exact h.elim
theorem own_base {w:World} {B B' n size:Nat} {e:TypeId} {v:Value} {xs:List Value} (h:w.ownsRow B e size v n xs) (hB:B'<=B):w.ownsRow B' e size v n xs:=by
 refine ⟨h.1,?_⟩
 rcases h.2 with h0|⟨g,cap,cur,rfl,hb,rest⟩
 ·exact .inl h0
 ·exact .inr ⟨g,cap,cur,rfl,Nat.le_trans hB hb,rest⟩
def evT (l:List Rule):List Rule:=l.filter fun r=>decide (r.hi=1000000)
def offT (l:List Rule) (o:Int):Int:=if (evT l).length=0 then 0 else o
def fmT (l:List Rule) (f:ByteArray):ByteArray:=if (evT l).length=0 then ⟨#[]⟩ else f
theorem evT_step {l:List Rule} {j:Nat} (h:j<l.length):evT (l.take (j+1))=if l[j].hi=1000000 then evT (l.take j)++[l[j]] else evT (l.take j):=by
 unfold evT;rw [List.take_succ_eq_append_getElem h,List.filter_append]
 by_cases e:l[j].hi=1000000
 ·rw [if_pos e]
  simp [e]
 ·rw [if_neg e]
  simp [e]
theorem firstZ_is {rs:List Rule}:∀ {es:List Era} (h:0<es.length),firstZ rs es=phaseE rs es[0] everT
 |[],h=>by simp at h
 |_ :: _,_=>rfl
theorem comp_end {F:Fence} {n:Nat} {w W:World} {T:Table} {err:Int} {v tv:Value} {tmps:Array Value} {B:Nat} {Ds:List Nat} (hB:w.heap.size+2<=B) (hm:MkC B Ds W)
  (hb:Blk W (w.heap.size+1) 33 (tabV T v tv)) (h1:W.ownsRow w.heap.size 97 4 v T.shifts.length (T.shifts.flatMap Shift.cells)) (h2:W.ownsRow w.heap.size 69 11 tv T.tail.length (T.tail.flatMap Rule.cells)) (hbel:Below w.heap.size w W)
  (ht:tmps[4]?=some (.pointer (some ⟨w.heap.size+1,0,none⟩))) (h5:tmps[5]?=some (.int .i64 err)):LeavesInM F n prog Tryz.f12 tmps (CompP T err w) (Ds.map markD) .returning W:=by
 refine leaves_marksC (B:=B) (P:=fun W=>Blk W (w.heap.size+1) 33 (tabV T v tv)/\W.ownsRow w.heap.size 97 4 v T.shifts.length (T.shifts.flatMap Shift.cells)/\W.ownsRow w.heap.size 69 11 tv T.tail.length (T.tail.flatMap Rule.cells)/\Below w.heap.size w W) (fun W D o h hD hh=>?_) (fun W h=>?_) Ds W hm ⟨hb,h1,h2,hbel⟩
 ·have ho:OddG B W (W.putObj D o) (some D):=⟨grownBy_putObj' W D o,fun r e=>by cases e;exact ⟨hD,_,hh,.inl rfl⟩⟩
  exact ⟨ho.blk h.1 (by decide),ho.own h.2.1 (by decide),ho.own h.2.2.1 (by decide),h.2.2.2.grown ho.1 h.2.2.2.size (fun k e=>by have:=(ho.2 k e).1;omega)⟩
 ·exact ⟨_,comp_results h.1 _ ht h5,v,tv,rfl,h.2.1,h.2.2.1,h.2.2.2⟩
theorem compile_yes (s:Src) (A A2 A3:Option Addr) (c c2 c3:Nat) (m:Int) (i:Nat) (w:World) (h:SrcOk s A A2 A3 w) (hm:w.cell? ⟨0,0,none⟩=some (.int .i64 m)) (hck:checkB s=noFlaw) (hs:srcB s=true) (hi:i<s.zones.length)
  (hne:0<(s.zones[i]'hi).eras.length) (hW:∀ x∈(s.zones[i]'hi).eras,EraW s x) (hy1:2037<=lastZ s.rules (s.zones[i]'hi).eras) (hy2:lastZ s.rules (s.zones[i]'hi).eras<=9999)
  (hT:∀ x∈(s.zones[i]'hi).eras,∀ u∈turnsE s.rules (lastZ s.rules (s.zones[i]'hi).eras) x,(-43200<=u.save/\u.save<=43200)/\u.letter.size<=2097152):
  Calls prog 12 #[.agg #[.slice A s.rules.length c,.slice A2 s.zones.length c2,.slice A3 s.links.length c3],.int .i64 i] w (CompP (compileP s i).1 (compileP s i).2 w):=by
 have hC:=fun z (hb:Below w.heap.size w z)=>check_any s A A2 A3 c c2 c3 m z (h.below hb) (cell_later hb hm);have heq:=fun z=>eq_flaw (checkB s) noFlaw z;rw [decide_eq_true hck] at heq;rw [hck] at hC heq;simp only [Flaw.cells,noFlaw] at hC heq;have hL:=fun z (hb:Below w.heap.size w z)=>tlast_any s A A2 A3 c c2 c3 (s.zones[i]'hi) z (h.below hb) (List.getElem_mem hi);have hrz:=h.rz;obtain ⟨az,hA2,hazb,z0,z1⟩:=zone_cells hrz hi rfl;obtain ⟨Z,hZ⟩:∃ Z,Z=s.zones[i]'hi:=⟨_,rfl⟩
 have hcp:compileP s i=if (madeZ s Z).1.2=true then (noTable,12) else (tableZ s Z,0):=by
  unfold compileP
  rw [if_pos ⟨hck,by omega⟩,show ((i:Nat):Int).toNat=i from by omega,List.getElem?_eq_getElem hi,<-hZ]
 rw [hcp]
 have hre:=h.re Z (by rw [hZ];exact List.getElem_mem hi)
 have hnz:=h.nz
 have hPh:=fun (j:Nat) (hj:j<Z.eras.length) (t:Int) (ht: -9223372036854775808<=t/\t<=9223372036854775807) z (hb:Below w.heap.size w z)=>ephase_era s A A2 A3 c c2 c3 m t i j z (h.below hb) (cell_later hb hm) hs hi Z hZ hj (hW _ (by rw [<-hZ];exact List.getElem_mem hj)) ht
 have hEnd:=fun (j:Nat) (hj:j<Z.eras.length) z (hb:Below w.heap.size w z)=>eend_era s A A2 A3 c c2 c3 m i j z (h.below hb) (cell_later hb hm) hs hi Z hZ hj;rw [<-hZ] at hL hne hW hy1 hy2 z0 z1 hT
 have hnr:=h.nr;have hne2:=h.ne Z (by rw [hZ];exact List.getElem_mem hi)
 have hE:=fun nm z (hb:Below w.heap.size w z)=>eset_any s A A2 A3 c c2 c3 nm z (h.below hb);have htr:=fun r hr=>(h.tr r hr).2;clear h hcp hck hs hZ hrz;obtain ⟨year,hyear⟩:∃ y,lastZ s.rules Z.eras=y:=⟨_,rfl⟩;rw [hyear] at hL hy1 hy2 hT;have HTm:=hid hT;clear hT
 obtain ⟨hj1,hj2,hj3⟩:=jan_there (y:=year+3) (by omega) (by omega)
 have hD:=fun z=>days_any (year+3) 1 1 z;rw [hj1] at hD;simp only [dayV] at hD;obtain ⟨dd,hdd⟩:∃ dd,countI (year+3) 1 1=dd:=⟨_,rfl⟩;rw [hdd] at hj2 hj3 hD;obtain ⟨rs,zs,ls⟩:=s;subst hA2;simp only at hC hL hi hre hnz hPh hEnd hE hnr HTm ⊢;have hb2:=box2 w 26 33 #[.slice A rs.length c,.slice (some az) zs.length c2,.slice A3 ls.length c3] #[.string ⟨#[]⟩,.int .i64 0,.int .i64 0,.string ⟨#[]⟩,.slice none 0 0,.int .i64 0,.slice none 0 0,.int .i64 0,.string ⟨#[]⟩];obtain ⟨W,hW2⟩:∃ W,(w.alloc (.cells #[.slice A rs.length c,.slice (some az) zs.length c2,.slice A3 ls.length c3] 26)).alloc (.cells #[.string ⟨#[]⟩,.int .i64 0,.int .i64 0,.string ⟨#[]⟩,.slice none 0 0,.int .i64 0,.slice none 0 0,.int .i64 0,.string ⟨#[]⟩] 33)=W:=⟨_,rfl⟩;rw [hW2] at hb2;obtain ⟨b0,b1,hbw,hsz⟩:=hb2;have HB0:=hid b0;have HB1:=hid b1;have HBw:=hid hbw;have HC:=hid hC;have HL:=hid hL;have HD:=hid hD;have HPh:=hid hPh;have HEnd:=hid hEnd;have HE:=hid hE;have HRe:=hid hre;have HEr:=hid hW;have HM:=hid hm;have HTr:=hid htr;have HYear:=hid hyear;have Hdd:=hid hdd;have Hj1:=hid hj1;have c0:=b0.cell
 have hd:decide (((i:Nat):Int)<0)=false:=decide_eq_false (by omega)
 have hd2:decide (zs.length<=i)=false:=decide_eq_false (by omega)
 have hk:∀ (z:World) (p:Addr) (u:Value),Below w.heap.size w z->p.block<w.heap.size->w.cell? p=some u->z.cell? p=some u:=fun z p u hb hp hc=>(hb.cell hp).trans hc
 have HZ:=hid (fun (z:World) (hb:Below w.heap.size w z)=>And.intro (hk z _ _ hb (by rw [block_of_add];exact hazb) z0) (hk z _ _ hb (by rw [block_of_add];exact hazb) z1))
 clear b0 b1 hbw hC hL hD hPh hEnd hE hre hW hm htr hyear hdd hj1 hk z0 z1
 obtain ⟨R,hR⟩:∃ R,(if (madeZ ⟨rs,zs,ls⟩ Z).1.2=true then (noTable,(12:Int)) else (tableZ ⟨rs,zs,ls⟩ Z,0))=R:=⟨_,rfl⟩
 rw [hR];have HR:=hid hR;clear hR
 refine (callsIn_wide (n:=3)).1 ?_
 refine callsIn_of_wp_noPanic func12 rfl trivial ?_ rfl
 simp only [ntmps12,List.size_toArray,List.length_cons,List.length_nil,Nat.reduceAdd,Nat.reduceSub,Array.replicate_succ,Array.replicate_zero,List.push_toArray,List.append_toArray,List.nil_append,List.cons_append]
 refine wpIn_wide.2 ?_
 go_wp2_with (first
  |(go_at_call 35;refine (HC.out _ HBw.out).mono ?_;rintro e w1 ⟨rfl,hb⟩;have hx0:=HB0.out.below hb HB0.out.lt;have d0:=fun o i=>(hx0.alloc o).cell i;have d0b:=hx0.cell;have HX0:=hid hx0;have HX1:=hid (HB1.out.below hb HB1.out.lt);have hbx:=HBw.out.trans (hb.mono HBw.out.size);have HBx:=hid hbx;obtain ⟨z0,z1⟩:=HZ.out _ hbx;clear hb hx0 hbx c0)
  |(go_at_call 36;have hfr:FrC w #[.slice A rs.length c,.slice (some az) zs.length c2,.slice A3 ls.length c3] #[.string ⟨#[]⟩,.int .i64 0,.int .i64 0,.string ⟨#[]⟩,.slice none 0 0,.int .i64 0,.slice none 0 0,.int .i64 0,.string ⟨#[]⟩] #[.string Z.name,.slice Z.A Z.eras.length Z.c] w1.heap.size (w1.alloc (.cells #[.string Z.name,.slice Z.A Z.eras.length Z.c] 65)):=⟨HX0.out.alloc _,HX1.out.alloc _,Blk.new _ _ _,HBx.out.alloc HBx.out.size _,by have:=HX1.out.lt;omega⟩;refine (HL.out _ hfr.bel).mono ?_;rintro e w2 ⟨rfl,hb⟩;have HFr:=hid (hfr.step hb);have hlz:=HX1.out.lt;clear hb hfr d0 d0b z0 z1)
  |(go_at_call 37;refine (HD.out _).mono ?_;rintro e w3 ⟨rfl,hb⟩;have hfr:=HFr.out.step hb;have e0:=fun o i=>(hfr.src.alloc o).cell i;have e1:=fun o i=>(hfr.zon.alloc o).cell i;have e1b:=hfr.zon.cell;have HF3:=hid hfr;clear hb hfr))
 have hmk:=(Blk.new w3 81 (MoV Z.name ⟨0,0,⟨#[]⟩⟩ (.slice none 0 0) (dd*86400) (.slice none 0 0) 0 ⟨#[]⟩ false)).alloc (.cells #[.pointer (some ⟨w3.heap.size,0,none⟩)] 79);have hmp:=Blk.new (w3.alloc (.cells (MoV Z.name ⟨0,0,⟨#[]⟩⟩ (.slice none 0 0) (dd*86400) (.slice none 0 0) 0 ⟨#[]⟩ false) 81)) 79 #[.pointer (some ⟨w3.heap.size,0,none⟩)];rw [World.size_alloc] at hmp;have hfm:FrM w _ _ _ _ w3.heap.size [] _:=⟨(HF3.out.alloc _).alloc _,hmp,HF3.out.zon.lt,MkC.nil _ _⟩;obtain ⟨bm,hbm⟩:∃ b,w3.heap.size=b:=⟨_,rfl⟩;obtain ⟨bz,hbz⟩:∃ b,w1.heap.size=b:=⟨_,rfl⟩;simp only [MoV] at hmk hfm;rw [hbm] at hmk hfm ⊢;rw [hbz] at hfm ⊢;obtain ⟨V,hV⟩:∃ V,(w3.alloc (.cells #[.string Z.name,.int .i64 0,.int .i64 0,.string ⟨#[]⟩,.slice none 0 0,.int .i64 (dd*86400),.slice none 0 0,.int .i64 0,.string ⟨#[]⟩,.bool false] 81)).alloc (.cells #[.pointer (some ⟨bm,0,none⟩)] 79)=V:=⟨_,rfl⟩;rw [hV] at hmk hfm ⊢;have HMk:=hid hmk;have HFm:=hid hfm;have v0:=hfm.fr.src.cell;have v1:=hfm.mp.cell;clear hmp hmk hfm hV hbm hbz e0 e1 e1b HF3 HBx HX0 HX1 hlz HFr HB0 HB1 HBw hW2 HZ HC HL HD;obtain ⟨F1,hF1⟩:∃ F,phaseE rs Z.eras[0] (-9000000000000)=F:=⟨_,rfl⟩
 have hp0:=HPh.out 0 hne (-9000000000000) (by omega)
 rw [hF1] at hp0;have HP0:=hid hp0;have HF1:=hid hF1;clear hp0 hF1
 go_cut [] from 62 to 72 (fun wx=>FrM w #[.slice A rs.length c,.slice (some az) zs.length c2,.slice A3 ls.length c3] #[.string ⟨#[]⟩,.int .i64 0,.int .i64 0,.string ⟨#[]⟩,.slice none 0 0,.int .i64 0,.slice none 0 0,.int .i64 0,.string ⟨#[]⟩] #[.string Z.name,.slice Z.A Z.eras.length Z.c] bz bm [] wx/\Mo w.heap.size bm Z.name F1 (dd*86400) (.slice none 0 0) 0 ⟨#[]⟩ ([],false) wx)
 case first=>
  go_region_law (go_simp;go_at_call 38;refine (HP0.out _ HFm.out.drew.fr.bel).mono ?_;rintro e w4 ⟨rfl,hb⟩;have hfr:=HFm.out.drew.step hb;have hmk4:=HMk.out.drew.below hb HMk.out.drew.lt;have u0:=hmk4.cell;have uf:=hmk4.frozen;have u1:=hfr.mp.cell;have HMk4:=hid hmk4;have HF4:=hid hfr;clear hb hfr hmk4 v0 v1)
  all_goals
   have hlo4:=HF4.out.fr.lo;have hlm4:=HF4.out.lom
   have hmf:=mo_first (w:=w4) (W:=w4) (B:=w.heap.size) (bm:=bm) (nm:=Z.name) (p:=⟨0,0,⟨#[]⟩⟩) (q:=F1) (till:=dd*86400) (v:= .slice none 0 0) (tv:= .slice none 0 0) (off:=0) (fm:=⟨#[]⟩) (over:=false) HMk4.out (n:=0) (xs:=[]) ⟨by simp,.inl ⟨rfl,rfl⟩⟩ (KeptS.refl _ _ _) (by omega)
   have HMf:=hid hmf;have HFk:=hid (HF4.out.kept hmf.2.2 (Nat.le_refl _));clear hmf u0 u1 uf HMk4 HF4;go_wp2;go_meet;exact ⟨HFk.out,_,HMf.out.1,HMf.out.2.1⟩
 case rest=>
  obtain ⟨hfm,hmo⟩:=hcut;have y0:=fun o i=>(hfm.fr.zon.alloc o).cell i;have hbb:=Blk.new wc 2 #[.int .i64 (-9000000000000)];have hfa:=hfm.alloc (.cells #[.int .i64 (-9000000000000)] 2);have hma:=hmo.step ((Below.refl wc.heap.size wc).alloc (Nat.le_refl _) (.cells #[.int .i64 (-9000000000000)] 2));have hlt:=hfm.mp.lt;have HFa:=hid hfa;have HMa:=hid hma;have HBb:=hid hbb;clear hfm hmo hbb hfa hma v0 v1 HFm HMk HP0;go_wp2;obtain ⟨bb,hbb⟩:∃ b,wc.heap.size=b:=⟨_,rfl⟩;rw [hbb] at HBb hlt ⊢;have hgt:=HFa.out.mp.lt;clear hbb y0;generalize wc.alloc _=W0 at*
  refine (wpIn_wide (n:=3)).1 ?_
  refine wpIn_loop (F:=Fence.wide) (n:=3) (fun a' wr=>∃ (k:Nat) (Ds:List Nat),k<=Z.eras.length/\FrM w #[.slice A rs.length c,.slice (some az) zs.length c2,.slice A3 ls.length c3] #[.string ⟨#[]⟩,.int .i64 0,.int .i64 0,.string ⟨#[]⟩,.slice none 0 0,.int .i64 0,.slice none 0 0,.int .i64 0,.string ⟨#[]⟩] #[.string Z.name,.slice Z.A Z.eras.length Z.c] bz bm Ds wr/\Blk wr bb 2 #[.int .i64 (erasK ⟨rs,zs,ls⟩ F1 (dd*86400) year Z.eras k).2]/\Mo w.heap.size bm Z.name F1 (dd*86400) (.slice none 0 0) 0 ⟨#[]⟩ (erasK ⟨rs,zs,ls⟩ F1 (dd*86400) year Z.eras k).1 wr/\
   ∃ u,a'={ tmps:=frC (.agg #[.slice A rs.length c,.slice (some az) zs.length c2,.slice A3 ls.length c3]) (.int .i64 i) (.pointer (some ⟨w.heap.size,0,none⟩)) (.pointer (some ⟨w.heap.size+1,0,none⟩)) (.int .i64 0) (.pointer (some ⟨bz,0,none⟩)) (.int .i64 year) (.int .i64 dd) (.pointer (some ⟨bm+1,0,none⟩)) (.pointer (some ⟨bb,0,none⟩)) (.slice Z.A Z.eras.length Z.c) (.int .i64 (Z.eras.length:Nat)) (.int .i64 (k:Nat)) u,defers:=Ds.map markD })
   (fun a' _=>Z.eras.length - (intOf (a'.tmps.getD 75 undef)).toNat) ?atStart ?round
  case atStart=>exact ⟨0,[],Nat.zero_le _,HFa.out,HBb.out,HMa.out,act_fr (by kernel_rfl)⟩
  case round=>
   clear HFa HBb HMa;rintro _ wr ⟨k,Ds,hk,hfm,hbb,hmo,u,rfl⟩;have HFm:=hid hfm;have HBb:=hid hbb;have HMo:=hid hmo;clear hfm hbb hmo
   refine wpIn_wide.2 ?_
   simp only [frC]
   by_cases hkn:k<Z.eras.length
   ·obtain ⟨ad,hA,hadb,a0,a1,a2,a3,a4,a5,a6,a7,a8,a9,a10,a11,a12⟩:=era_cells (HRe.out.below HFm.out.fr.bel) hkn rfl
    have hes:=HEnd.out k hkn;have hst:=erasK_succ ⟨rs,zs,ls⟩ F1 (dd*86400) year Z.eras k hkn;have hln:=erasK_len ⟨rs,zs,ls⟩ F1 (dd*86400) year Z.eras k
    have hbeg:=erasK_bd (first:=F1) (till:=dd*86400) (year:=year) HEr.out k hk
    have HBeg:=hid hbeg;clear hbeg;have HHs:=hid hes;have HSt:=hid hst;have HLn:=hid hln;have hew:=HEr.out _ (List.getElem_mem hkn);have HEw:=hid hew;clear hes hst hln hew;obtain ⟨st,hst2⟩:∃ st,erasK ⟨rs,zs,ls⟩ F1 (dd*86400) year Z.eras k=st:=⟨_,rfl⟩;rw [hst2] at HSt HLn HMo HBb HBeg;clear hst2;obtain ⟨mk,beg⟩:=st;simp only at HSt HLn HMo HBb HBeg;obtain ⟨x,hx⟩:∃ x,Z.eras[k]=x:=⟨_,rfl⟩;have htu:=HTm.out _ (List.getElem_mem hkn);have HTu:=hid htu;clear htu;have hPk:=HPh.out k hkn;rw [hx] at HTu HHs HSt HEw hPk a0 a1 a2 a3 a4 a5 a6 a7 a8 a9 a10 a11 a12;have HPk:=hid hPk;clear hx hPk;obtain ⟨en,hen⟩:∃ e,eraEnd ⟨rs,zs,ls⟩ x=e:=⟨_,rfl⟩;rw [hen] at HHs;have HEnd2:=hid hen;clear hen;obtain ⟨x0,x1,x2,x3,x4,x5,x6,⟨s0,s1,s2,s3,s4,s5⟩⟩:=x;simp only at a0 a1 a2 a3 a4 a5 a6 a7 a8 a9 a10 a11 a12 HHs;have hwl:=HFm.out.mp.lt;have hbl:=HBb.out.lt
    have HFE:Hid (FrE w _ _ _ bz bm Ds bb wr.heap.size beg _ Z.name F1 (dd*86400) mk _):=⟨HFm.out.alloc _,HBb.out.alloc _,Blk.new wr 84 #[.int .i64 x0,.int .i64 x1,.int .i64 x2,.string x3,.string x4,.bool x5,.int .i64 x6,.int .i64 s0,.int .i64 s1,.int .i64 s2,.int .i64 s3,.int .i64 s4,.int .i64 s5],HMo.out.step ((Below.refl _ _).alloc (Nat.le_refl _) _),by omega,hbl⟩
    have c0:=fun o i=>(HFm.out.fr.src.alloc o).cell i;have q0:=fun o i=>(HFm.out.mp.alloc o).cell i
    go_upto_if 88 with (go_at_call 39;refine (HHs.out _ HFE.out.fm.fr.bel).mono ?_;rintro e w2 ⟨rfl,hb⟩;have hfe:=HFE.out.step hb;have HF2:=hid hfe;clear hb hfe c0 q0)
    have hb2:=box2 w2 2 4 #[.int .i64 en] #[.bool x5];have hfe:=(HF2.out.alloc (.cells #[.int .i64 en] 2)).alloc (.cells #[.bool x5] 4);obtain ⟨be,hbe⟩:∃ b,w2.heap.size=b:=⟨_,rfl⟩;obtain ⟨V,hV⟩:∃ V,(w2.alloc (.cells #[.int .i64 en] 2)).alloc (.cells #[.bool x5] 4)=V:=⟨_,rfl⟩;rw [hbe] at hb2 ⊢;rw [hV] at hb2 hfe ⊢;obtain ⟨bEn,bHas,_,_⟩:=hb2
    have hlE:wr.heap.size<be:=by rw [<-hbe];exact HF2.out.er.lt
    have HEn:=hid bEn;have HHas:=hid bHas;have HF3:=hid hfe;clear bEn bHas hfe hV hbe HFE HF2
    go_cut [73,74,75] from 16 to 99 (fun s73 s74 s75 wx=>s73= .slice (some ad) Z.eras.length Z.c/\s74= .int .i64 (Z.eras.length:Nat)/\s75= .int .i64 (k:Nat)/\FrE w #[.slice A rs.length c,.slice (some az) zs.length c2,.slice A3 ls.length c3] #[.string ⟨#[]⟩,.int .i64 0,.int .i64 0,.string ⟨#[]⟩,.slice none 0 0,.int .i64 0,.slice none 0 0,.int .i64 0,.string ⟨#[]⟩] #[.string Z.name,.slice Z.A Z.eras.length Z.c] bz bm Ds bb wr.heap.size beg #[.int .i64 x0,.int .i64 x1,.int .i64 x2,.string x3,.string x4,.bool x5,.int .i64 x6,.int .i64 s0,.int .i64 s1,.int .i64 s2,.int .i64 s3,.int .i64 s4,.int .i64 s5] Z.name F1 (dd*86400) (if 0<k then putP F1 (dd*86400) mk beg (phaseE rs ⟨x0,x1,x2,x3,x4,x5,x6,⟨s0,s1,s2,s3,s4,s5⟩⟩ beg) else mk) wx/\Blk wx be 2 #[.int .i64 en]/\Blk wx (be+1) 4 #[.bool x5])
    case first=>
     by_cases hk0:0<k
     ·have hk0b:decide (0<k)=true:=decide_eq_true hk0
      have c3:=HF3.out.fm.fr.src.cell;have g3:=HF3.out.bg.cell
      have hpp:=HPk.out beg ⟨by have:=HBeg.out.1;omega,by have:=HBeg.out.2;omega⟩
      obtain ⟨PH,hPH⟩:∃ p,phaseE rs ⟨x0,x1,x2,x3,x4,x5,x6,⟨s0,s1,s2,s3,s4,s5⟩⟩ beg=p:=⟨_,rfl⟩;rw [hPH] at hpp;have HPp:=hid hpp;have HPH:=hid hPH;clear hpp hPH
      go_wp2_with (first
       |(go_at_call 38;refine (HPp.out _ HF3.out.fm.fr.bel).mono ?_;rintro e w5 ⟨rfl,hb⟩;have hfe:=HF3.out.step hb;have r0:=fun o i=>(hfe.fm.mp.alloc o).cell i;have r1:=fun o i=>(hfe.bg.alloc o).cell i;have HF5:=hid hfe;have HEn5:=hid (HEn.out.below hb HEn.out.lt);have HHas5:=hid (HHas.out.below hb HHas.out.lt);clear hb hfe c3 g3)
       |(go_at_call 40;have hfe:=HF5.out.alloc (.cells #[.int .i64 PH.off,.int .i64 PH.save,.string PH.abbr] 30);refine (put_any w.heap.size bm Z.name F1 (dd*86400) (.slice none 0 0) 0 ⟨#[]⟩ mk beg PH _ hfe.mo (by have h1:=hfe.fm.fr.lo;have h2:=hfe.fm.lom;omega) hfe.fm.fr.bel.size HLn.out).mono ?_;rintro e w6 ⟨rfl,hm6,hk6⟩;have HF6:=hid (hfe.kept hk6 hm6);have HEn6:=hid (hk6.blk (HEn5.out.alloc (.cells #[.int .i64 PH.off,.int .i64 PH.save,.string PH.abbr] 30)) (by have h1:=HF5.out.lo;omega) (by decide));have HHas6:=hid (hk6.blk (HHas5.out.alloc (.cells #[.int .i64 PH.off,.int .i64 PH.save,.string PH.abbr] 30)) (by have h1:=HF5.out.lo;omega) (by decide));clear hfe hm6 hk6 r0 r1))
      go_meet
      exact ⟨rfl,rfl,rfl,by rw [if_pos hk0,HPH.out];exact HF6.out,HEn6.out,HHas6.out⟩
     ·have hk0b:decide (0<k)=false:=decide_eq_false hk0
      go_wp2;go_meet
      exact ⟨rfl,rfl,rfl,by rw [if_neg hk0];exact HF3.out,HEn.out,HHas.out⟩
    case rest=>
     obtain ⟨rfl,rfl,rfl,hfe,hbe,hbh⟩:=hcut
     obtain ⟨m1,hm1⟩:∃ m1,(if 0<k then putP F1 (dd*86400) mk beg (phaseE rs ⟨x0,x1,x2,x3,x4,x5,x6,⟨s0,s1,s2,s3,s4,s5⟩⟩ beg) else mk)=m1:=⟨_,rfl⟩
     rw [hm1] at hfe;have c3:=hfe.fm.fr.src.cell;have e3:=hfe.er.cell;have HM1:=hid hm1;have HF7:=hid hfe;have HEn7:=hid hbe;have HHas7:=hid hbh;clear hm1 hfe hbe hbh HF3 HEn HHas HPk HHs;have hLl:(setL rs x3).length<=1000000:=Nat.le_trans (setL_len rs x3) hnr;obtain ⟨L,hL⟩:∃ L,setL rs x3=L:=⟨_,rfl⟩;have hse:=HE.out x3;rw [hL] at hse hLl;have HSe:=hid hse;have HL:=hid hL;clear hse hL
     go_wp2_with (first
      |(go_at_call 41;refine (HSe.out _ HF7.out.fm.fr.bel).mono ?_;rintro e w7 ⟨v,rfl,hown,hb⟩;obtain ⟨Av,cv,rfl⟩:=own_slice hown;have hfe:=HF7.out.step hb;have e4:=hfe.er.cell;have HF8:=hid hfe;have HEn8:=hid (HEn7.out.below hb HEn7.out.lt);have HHas8:=hid (HHas7.out.below hb HHas7.out.lt);have HOw:=hid hown;clear hb hfe hown c3 e3)
      |(go_at_call 42;refine (turns_call Av L.length cv x0 (year+3) _).mono ?_;rintro e w8 ⟨rfl,rfl⟩;clear e4))
     obtain ⟨q1,q2,q3,q4,_⟩:=box3 w7 22 3 3 #[.slice Av L.length cv] #[.int .i64 x0] #[.int .i64 (year+3)];obtain ⟨W8,hW8⟩:∃ W8,((w7.alloc (.cells #[.slice Av L.length cv] 22)).alloc (.cells #[.int .i64 x0] 3)).alloc (.cells #[.int .i64 (year+3)] 3)=W8:=⟨_,rfl⟩;rw [hW8] at q1 q2 q3 q4 ⊢;have hfx:=HF8.out.step q4;have HFx:=hid hfx;have HEx:=hid (HEn8.out.below q4 HEn8.out.lt);have HHx:=hid (HHas8.out.below q4 HHas8.out.lt);have hOx:=HOw.out.kept (gr_of_below q4) (own_none HOw.out);have hsz:w.heap.size<=W8.heap.size:=hfx.fm.fr.bel.size
     have hDs:∀ D∈Ds,D<W8.heap.size:=fun D hD=>(Array.getElem?_eq_some_iff.1 (hfx.fm.mks.at_ D hD).2).1
     have hbmW:bm+2<=W8.heap.size:=by have:=hfx.fm.mp.lt;omega
     obtain ⟨hx0,hx0'⟩:=HEw.out.off;have hLr:=HEw.out.right;have hLc:=HEw.out.crowd;simp only [HL.out] at hLr hLc;have hfm:=HEw.out.fmt;simp only at hx0 hx0' hfm
     have HM0:=hid (show m1.1.length<=30000 from by
      rw [<-HM1.out]
      split
      ·exact putP_len _ _ HLn.out
      ·exact HLn.out)
     have HAb:=hid (fun (l:ByteArray) (off save:Int) (z:World) (h1:l.size<=2097152) (h2: -359999<=off) (h3:off<=359999) (hb:Below w.heap.size w z)=>abbr_any x4 l off save m z hfm h1 h2 h3 (cell_later hb HM.out));clear HF8 HEn8 HHas8 HOw hfx hW8
     refine (wpIn_wide (n:=3)).1 ?_
     refine Rng.wpIn_rangeC isTurn_not (F:=Fence.wide) (n:=3) (α:=TurnU) rfl (by decide) (gf:=86) (lb:=#[.pointer (some ⟨w7.heap.size,0,none⟩),.pointer (some ⟨w7.heap.size+1+1,0,none⟩),.pointer (some ⟨w7.heap.size+1,0,none⟩)]) rfl trivial (enters_of func86 (by kernel_rfl) rfl)
      (turns_seq L Av cv x0 (year+3) (3 - 1) w7.heap.size (w7.heap.size+1+1) (w7.heap.size+1) w.heap.size (turnsP L x0 (year+3)).length W8 q1 q3 q2 hsz (fun z hk=>Reads.of_own (own_kr hOx hk (by decide) (by decide) (by decide))) hLl hLr hLc (by omega) (by omega) hx0 hx0' (Nat.le_refl _))
      (fun h k=>h.trans k) (fun W l r o' hl hh=>kq_put (Nat.le_trans hsz hl) hh) (Below.refl _ _) (fun _=>rfl)
      (fun pre W=>FrE w #[.slice A rs.length c,.slice (some az) zs.length c2,.slice A3 ls.length c3] #[.string ⟨#[]⟩,.int .i64 0,.int .i64 0,.string ⟨#[]⟩,.slice none 0 0,.int .i64 0,.slice none 0 0,.int .i64 0,.string ⟨#[]⟩] #[.string Z.name,.slice Z.A Z.eras.length Z.c] bz bm Ds bb wr.heap.size beg #[.int .i64 x0,.int .i64 x1,.int .i64 x2,.string x3,.string x4,.bool x5,.int .i64 x6,.int .i64 s0,.int .i64 s1,.int .i64 s2,.int .i64 s3,.int .i64 s4,.int .i64 s5] Z.name F1 (dd*86400) (pre.foldl (turnPut F1 (dd*86400) ⟨x0,x1,x2,x3,x4,x5,x6,⟨s0,s1,s2,s3,s4,s5⟩⟩ beg en) m1) W/\Blk W be 2 #[.int .i64 en]/\Blk W (be+1) 4 #[.bool x5])
      (fun s W W' row h hg hr=>by
       have ho:OddG W8.heap.size W W' row:=⟨hg,hr⟩
       exact ⟨ho.fre hsz hDs h.1,ho.blk h.2.1 (by decide),ho.blk h.2.2 (by decide)⟩)
      ⟨HFx.out,HEx.out,HHx.out⟩
      (fun x a' W=>∃ Bx,Blk W Bx 92 #[.int .i64 x.at_,.int .i64 x.save,.string x.letter]/\∃ u,a'={ tmps:=frB (.pointer (some ⟨bm+1,0,none⟩)) (.pointer (some ⟨bb,0,none⟩)) (.pointer (some ⟨wr.heap.size,0,none⟩)) (.pointer (some ⟨be,0,none⟩)) (.pointer (some ⟨be+1,0,none⟩)) (.pointer (some ⟨Bx,0,none⟩)) u,defers:=[] })
      (fun x a' W l r o' h hl hh=>by
       obtain ⟨Bx,h1,h2⟩:=h
       exact ⟨Bx,OddG.blk (B:=W8.heap.size) (row:=some l) ⟨grownBy_putObj' W l o',fun r e=>by cases e;exact ⟨hl,_,hh,.inl rfl⟩⟩ h1 (by decide),h2⟩) ?assign ?body ?done
     case assign=>
      rintro l pre ⟨t0,t1,t2⟩ W K ⟨hfe,hen,hhas⟩ hK;have hbs:=hfe.fm.fr.bel.size;simp only [encU]
      gi_wp2
      refine hK _ _ ((KeepsOthers.alloc _ _).from _) (kq_below ((Below.refl _ _).alloc (Nat.le_refl _) _) hbs) ⟨hfe.alloc _,hen.alloc _,hhas.alloc _⟩ ⟨W.heap.size,Blk.new _ _ _,?_⟩
      exact act_fb (by kernel_rfl)
     case body=>
      rintro l pre ⟨t0,t1,t2⟩ a' W ⟨hfe,hen,hhas⟩ ⟨Bx,hbx,u,rfl⟩ hlen hsp;simp only [frB]
      have hin:(⟨t0,t1,t2⟩:TurnU)∈turnsP L x0 (year+3):=hsp.subset (by simp)
      have htb:=HTu.out ⟨t0,t1,t2⟩ (by unfold turnsE;simp only [HL.out];exact hin)
      obtain ⟨⟨htb1,htb2⟩,htb3⟩:=htb;simp only at htb1 htb2 htb3;have hfold:=List.foldl_append (f:=turnPut F1 (dd*86400) ⟨x0,x1,x2,x3,x4,x5,x6,⟨s0,s1,s2,s3,s4,s5⟩⟩ beg en) (b:=m1) (l:=pre) (l':=[⟨t0,t1,t2⟩]);simp only [List.foldl_cons,List.foldl_nil] at hfold
      have hmlen:=turns_len (first:=F1) (till:=dd*86400) (x:=⟨x0,x1,x2,x3,x4,x5,x6,⟨s0,s1,s2,s3,s4,s5⟩⟩) (a:=beg) (b:=en) pre m1 HM0.out
      obtain ⟨mm,hmm⟩:∃ mm,pre.foldl (turnPut F1 (dd*86400) ⟨x0,x1,x2,x3,x4,x5,x6,⟨s0,s1,s2,s3,s4,s5⟩⟩ beg en) m1=mm:=⟨_,rfl⟩;rw [hmm] at hfold hmlen hfe;have Hfold:=hid hfold;have HFe:=hid hfe;have HEn':=hid hen;have HHas':=hid hhas;have HBx:=hid hbx;have dx:=hbx.cell;have db:=hfe.bg.cell 0;have dn:=hen.cell 0;have dh:=hhas.cell 0
      simp only [List.getElem?_toArray,List.getElem?_cons_zero] at db dn dh
      have hbs:=hfe.fm.fr.bel.size;clear hin hsp hfold hmm hlen
      by_cases hcond:t0<=beg\/x5=true/\en<=t0
      ·have htp:turnPut F1 (dd*86400) ⟨x0,x1,x2,x3,x4,x5,x6,⟨s0,s1,s2,s3,s4,s5⟩⟩ beg en mm ⟨t0,t1,t2⟩=mm:=if_pos hcond
       rw [htp] at Hfold;have HFp:=hid htp;clear htp hfe hen hhas hbx
       by_cases h1:t0<=beg
       ·have h1b:decide (t0<=beg)=true:=decide_eq_true h1
        gi_wp2
        exact ⟨KeepsFrom.refl _ _,kq_below (Below.refl _ _) hbs,by rw [Hfold.out];have q:=HFe.out;rw [hA] at q;exact q,HEn'.out,HHas'.out⟩
       ·obtain ⟨rfl,h2⟩:=hcond.resolve_left h1
        have h1b:decide (t0<=beg)=false:=decide_eq_false h1;have h2b:decide (en<=t0)=true:=decide_eq_true h2
        gi_wp2
        exact ⟨KeepsFrom.refl _ _,kq_below (Below.refl _ _) hbs,by rw [Hfold.out];have q:=HFe.out;rw [hA] at q;exact q,HEn'.out,HHas'.out⟩
      ·have htp:turnPut F1 (dd*86400) ⟨x0,x1,x2,x3,x4,x5,x6,⟨s0,s1,s2,s3,s4,s5⟩⟩ beg en mm ⟨t0,t1,t2⟩=putP F1 (dd*86400) mm t0 ⟨x0+t1,t1,abbrB x4 t2 (x0+t1) t1⟩:=if_neg hcond
       rw [htp] at Hfold;have h1b:decide (t0<=beg)=false:=decide_eq_false fun h=>hcond (.inl h);have h2b:x5=true->decide (en<=t0)=false:=fun hx=>decide_eq_false fun h=>hcond (.inr ⟨hx,h⟩)
       have hab:=HAb.out t2 (x0+t1) t1 W htb3 (by omega) (by omega) hfe.fm.fr.bel
       obtain ⟨Ab,hAb⟩:∃ Ab,abbrB x4 t2 (x0+t1) t1=Ab:=⟨_,rfl⟩;rw [hAb] at hab Hfold;have HAb2:=hid hab;have de4:=hfe.er.cell 0
       simp only [List.getElem?_toArray,List.getElem?_cons_zero] at de4
       clear htp hab hfe hen hhas hbx
       have HAb3:Hid (∀ z,Below w.heap.size w z->Calls prog 43 #[.string x4,.string t2,.int .i64 (x0+t1),.int .i64 t1] z fun e w'=>e= .returned (.string Ab)/\Below z.heap.size z w'):=fun z hz=>by
        have h:=HAb.out t2 (x0+t1) t1 z htb3 (by omega) (by omega) hz
        rw [hAb] at h;exact h
       clear hAb HAb2 HAb
       cases x5
       ·clear h2b hcond
        gi_wp2
        obtain ⟨Cls,hCls⟩:∃ C:World->Prop,C=fun z=>FrE w #[.slice A rs.length c,.slice (some az) zs.length c2,.slice A3 ls.length c3] #[.string ⟨#[]⟩,.int .i64 0,.int .i64 0,.string ⟨#[]⟩,.slice none 0 0,.int .i64 0,.slice none 0 0,.int .i64 0,.string ⟨#[]⟩] #[.string Z.name,.slice Z.A Z.eras.length Z.c] bz bm Ds bb wr.heap.size beg #[.int .i64 x0,.int .i64 x1,.int .i64 x2,.string x3,.string x4,.bool false,.int .i64 x6,.int .i64 s0,.int .i64 s1,.int .i64 s2,.int .i64 s3,.int .i64 s4,.int .i64 s5] Z.name F1 (dd*86400) mm z/\Blk z be 2 #[.int .i64 en]/\Blk z (be+1) 4 #[.bool false]/\Blk z Bx 92 #[.int .i64 t0,.int .i64 t1,.string t2]/\KeepsFrom W8.heap.size W z/\Kq w.heap.size W z:=⟨_,rfl⟩
        have hC:∀ z,Cls z->FrE w #[.slice A rs.length c,.slice (some az) zs.length c2,.slice A3 ls.length c3] #[.string ⟨#[]⟩,.int .i64 0,.int .i64 0,.string ⟨#[]⟩,.slice none 0 0,.int .i64 0,.slice none 0 0,.int .i64 0,.string ⟨#[]⟩] #[.string Z.name,.slice Z.A Z.eras.length Z.c] bz bm Ds bb wr.heap.size beg #[.int .i64 x0,.int .i64 x1,.int .i64 x2,.string x3,.string x4,.bool false,.int .i64 x6,.int .i64 s0,.int .i64 s1,.int .i64 s2,.int .i64 s3,.int .i64 s4,.int .i64 s5] Z.name F1 (dd*86400) mm z/\Blk z be 2 #[.int .i64 en]/\Blk z (be+1) 4 #[.bool false]/\Blk z Bx 92 #[.int .i64 t0,.int .i64 t1,.string t2]/\KeepsFrom W8.heap.size W z/\Kq w.heap.size W z:=fun z h=>by rw [hCls] at h;exact h
        have hst:∀ z z',Cls z->Below z.heap.size z z'->Cls z':=fun z z' h hb=>by
         obtain ⟨g1,g2,g3,g4,g5,g6⟩:=hC z h;rw [hCls]
         exact ⟨g1.step hb,g2.below hb g2.lt,g3.below hb g3.lt,g4.below hb g4.lt,g5.trans (KeepsFrom.of_grownBy (gr_of_below hb) (fun j e=>by cases e)),g6.trans (kq_below hb g1.fm.fr.bel.size)⟩
        have hs0:Cls W:=by rw [hCls];exact ⟨HFe.out,HEn'.out,HHas'.out,HBx.out,KeepsFrom.refl _ _,kq_below (Below.refl _ _) hbs⟩
        have HS:=hid (hst _ W.drew hs0 (Below.refl _ _).drew);have HAbC:=hid (fun z (hz:Cls z)=>(HAb3.out z (hC z hz).1.fm.fr.bel).mono fun e z' ⟨he,hb⟩=>And.intro he (hst z z' hz hb));have inst:Nonempty (Qt.In Cls):=⟨⟨_,HS.out⟩⟩;have zx:=fun (z:Qt.In Cls) i=>(hC z.w z.h).2.2.2.1.cell i;have ze:=fun (z:Qt.In Cls) i=>(hC z.w z.h).1.er.cell i;have zm:=fun (z:Qt.In Cls)=>(hC z.w z.h).1.fm.mp.cell 0
        simp only [List.getElem?_toArray,List.getElem?_cons_zero] at zm
        have HC:=hid hC;clear hCls hC hst hs0 dx db dn dh de4
        refine Qt.region_round (by kernel_rfl) (by kernel_rfl) (by rintro ⟨_,_,h⟩;exact h) ?_
        refine Qt.any_cls_tail Cls 15 (by kernel_rfl) HS.out ?_
        simp only [List.take_succ_cons,List.take_zero,List.drop_succ_cons,List.drop_zero]
        repeat (go_big_quiet_step (first|(go_at_call 43;exact Qt.quiet_cls (HAbC.out _ (Qt.In.h _)))))
        refine wpQuiet_nil ?_
        rintro wq ⟨⟨w9,hq⟩,rfl⟩;obtain ⟨f1,f2,f3,f4,f5,f6⟩:=HC.out wq hq;have HF9:=hid f1;have H92:=hid f2;have H93:=hid f3;have H95:=hid f5;have H96:=hid f6;clear zx ze zm f1 f2 f3 f4 f5 f6 hq
        go_wp2_with (go_at_call 40;refine (put_any w.heap.size bm Z.name F1 (dd*86400) (.slice none 0 0) 0 ⟨#[]⟩ mm t0 ⟨x0+t1,t1,Ab⟩ _ HF9.out.mo (by have h1:=HF9.out.fm.fr.lo;have h2:=HF9.out.fm.lom;omega) HF9.out.fm.fr.bel.size hmlen).mono ?_;rintro e w10 ⟨rfl,hm,hk⟩;have HM10:=hid hm;have HK10:=hid hk;clear hm hk)
        obtain ⟨csm,hcm⟩:=HF9.out.mo.block;have hlo:=HF9.out.lo;have hfin:=HF9.out.kept HK10.out HM10.out;rw [<-Hfold.out] at hfin
        refine ⟨H95.out.trans (keeps_kept HK10.out hcm),H96.out.trans (kq_kept HK10.out (Nat.le_refl _) hcm),?_,HK10.out.blk H92.out (by omega) (by decide),HK10.out.blk H93.out (by omega) (by decide)⟩
        first
         |exact hfin
         |(rw [hA] at hfin;exact hfin)
       ·have h2c:=h2b rfl
        clear h2b hcond
        gi_wp2
        obtain ⟨Cls,hCls⟩:∃ C:World->Prop,C=fun z=>FrE w #[.slice A rs.length c,.slice (some az) zs.length c2,.slice A3 ls.length c3] #[.string ⟨#[]⟩,.int .i64 0,.int .i64 0,.string ⟨#[]⟩,.slice none 0 0,.int .i64 0,.slice none 0 0,.int .i64 0,.string ⟨#[]⟩] #[.string Z.name,.slice Z.A Z.eras.length Z.c] bz bm Ds bb wr.heap.size beg #[.int .i64 x0,.int .i64 x1,.int .i64 x2,.string x3,.string x4,.bool true,.int .i64 x6,.int .i64 s0,.int .i64 s1,.int .i64 s2,.int .i64 s3,.int .i64 s4,.int .i64 s5] Z.name F1 (dd*86400) mm z/\Blk z be 2 #[.int .i64 en]/\Blk z (be+1) 4 #[.bool true]/\Blk z Bx 92 #[.int .i64 t0,.int .i64 t1,.string t2]/\KeepsFrom W8.heap.size W z/\Kq w.heap.size W z:=⟨_,rfl⟩
        have hC:∀ z,Cls z->FrE w #[.slice A rs.length c,.slice (some az) zs.length c2,.slice A3 ls.length c3] #[.string ⟨#[]⟩,.int .i64 0,.int .i64 0,.string ⟨#[]⟩,.slice none 0 0,.int .i64 0,.slice none 0 0,.int .i64 0,.string ⟨#[]⟩] #[.string Z.name,.slice Z.A Z.eras.length Z.c] bz bm Ds bb wr.heap.size beg #[.int .i64 x0,.int .i64 x1,.int .i64 x2,.string x3,.string x4,.bool true,.int .i64 x6,.int .i64 s0,.int .i64 s1,.int .i64 s2,.int .i64 s3,.int .i64 s4,.int .i64 s5] Z.name F1 (dd*86400) mm z/\Blk z be 2 #[.int .i64 en]/\Blk z (be+1) 4 #[.bool true]/\Blk z Bx 92 #[.int .i64 t0,.int .i64 t1,.string t2]/\KeepsFrom W8.heap.size W z/\Kq w.heap.size W z:=fun z h=>by rw [hCls] at h;exact h
        have hst:∀ z z',Cls z->Below z.heap.size z z'->Cls z':=fun z z' h hb=>by
         obtain ⟨g1,g2,g3,g4,g5,g6⟩:=hC z h;rw [hCls]
         exact ⟨g1.step hb,g2.below hb g2.lt,g3.below hb g3.lt,g4.below hb g4.lt,g5.trans (KeepsFrom.of_grownBy (gr_of_below hb) (fun j e=>by cases e)),g6.trans (kq_below hb g1.fm.fr.bel.size)⟩
        have hs0:Cls W:=by rw [hCls];exact ⟨HFe.out,HEn'.out,HHas'.out,HBx.out,KeepsFrom.refl _ _,kq_below (Below.refl _ _) hbs⟩
        have HS:=hid (hst _ W.drew hs0 (Below.refl _ _).drew);have HAbC:=hid (fun z (hz:Cls z)=>(HAb3.out z (hC z hz).1.fm.fr.bel).mono fun e z' ⟨he,hb⟩=>And.intro he (hst z z' hz hb));have inst:Nonempty (Qt.In Cls):=⟨⟨_,HS.out⟩⟩;have zx:=fun (z:Qt.In Cls) i=>(hC z.w z.h).2.2.2.1.cell i;have ze:=fun (z:Qt.In Cls) i=>(hC z.w z.h).1.er.cell i;have zm:=fun (z:Qt.In Cls)=>(hC z.w z.h).1.fm.mp.cell 0
        simp only [List.getElem?_toArray,List.getElem?_cons_zero] at zm
        have HC:=hid hC;clear hCls hC hst hs0 dx db dn dh de4
        refine Qt.region_round (by kernel_rfl) (by kernel_rfl) (by rintro ⟨_,_,h⟩;exact h) ?_
        refine Qt.any_cls_tail Cls 15 (by kernel_rfl) HS.out ?_
        simp only [List.take_succ_cons,List.take_zero,List.drop_succ_cons,List.drop_zero]
        repeat (go_big_quiet_step (first|(go_at_call 43;exact Qt.quiet_cls (HAbC.out _ (Qt.In.h _)))))
        refine wpQuiet_nil ?_
        rintro wq ⟨⟨w9,hq⟩,rfl⟩;obtain ⟨f1,f2,f3,f4,f5,f6⟩:=HC.out wq hq;have HF9:=hid f1;have H92:=hid f2;have H93:=hid f3;have H95:=hid f5;have H96:=hid f6;clear zx ze zm f1 f2 f3 f4 f5 f6 hq
        go_wp2_with (go_at_call 40;refine (put_any w.heap.size bm Z.name F1 (dd*86400) (.slice none 0 0) 0 ⟨#[]⟩ mm t0 ⟨x0+t1,t1,Ab⟩ _ HF9.out.mo (by have h1:=HF9.out.fm.fr.lo;have h2:=HF9.out.fm.lom;omega) HF9.out.fm.fr.bel.size hmlen).mono ?_;rintro e w10 ⟨rfl,hm,hk⟩;have HM10:=hid hm;have HK10:=hid hk;clear hm hk)
        obtain ⟨csm,hcm⟩:=HF9.out.mo.block;have hlo:=HF9.out.lo;have hfin:=HF9.out.kept HK10.out HM10.out;rw [<-Hfold.out] at hfin
        refine ⟨H95.out.trans (keeps_kept HK10.out hcm),H96.out.trans (kq_kept HK10.out (Nat.le_refl _) hcm),?_,HK10.out.blk H92.out (by omega) (by decide),HK10.out.blk H93.out (by omega) (by decide)⟩
        first
         |exact hfin
         |(rw [hA] at hfin;exact hfin)
     case done=>
      rintro D xs W hD rfl ⟨hfe,hen,hhas⟩ hK;have hst:=HSt.out;unfold eraPut at hst
      have hte:turnsE rs year ⟨x0,x1,x2,x3,x4,x5,x6,⟨s0,s1,s2,s3,s4,s5⟩⟩=turnsP L x0 (year+3):=by unfold turnsE;simp only [HL.out]
      have hdk:(if decide (0<k)=true then putP F1 (dd*86400) mk beg (phaseE rs ⟨x0,x1,x2,x3,x4,x5,x6,⟨s0,s1,s2,s3,s4,s5⟩⟩ beg) else mk)=m1:=by
       rw [<-HM1.out];simp only [decide_eq_true_eq]
      simp only [hte,HEnd2.out] at hst;rw [hdk] at hst;have Hst:=hid hst;have hbe:=hen.cell 0;have hbf:=hfe.bg.frozen 0;have hbc:=hfe.bg.cell 0
      simp only [List.getElem?_toArray,List.getElem?_cons_zero] at hbe hbc
      have hlo:=hfe.lo
      have hfm2:FrM w _ _ _ bz bm (D :: Ds) W:=⟨hfe.fm.fr,hfe.fm.mp,hfe.fm.lom,HFx.out.fm.mks.push hfe.fm.mks (by omega) hD hK⟩
      have HSet:=hid (frm_set hfm2 hfe.bg hlo.1 (.int .i64 en))
      have HMo2:=hid (mo_set hfe.mo hfe.bg (by omega) (.int .i64 en))
      clear hst hte hdk hfe hen hhas hK hfm2;go_wp2;rw [hA]
      refine ⟨⟨k+1,D :: Ds,by omega,?_,?_,?_,act_fr (by kernel_rfl)⟩,?_⟩
      ·have q:=HSet.out.1
       rw [hA] at q;exact q
      ·rw [Hst.out];exact HSet.out.2
      ·rw [Hst.out];exact HMo2.out
      ·show Z.eras.length - (intOf (.int .i64 ((k+1:Nat):Int))).toNat<Z.eras.length - (intOf (.int .i64 ((k:Nat):Int))).toNat
       simp only [intOf];omega
   ·obtain rfl:k=Z.eras.length:=by omega
    have hyz:lastZ rs Z.eras=year:=HYear.out
    have huz:untilZ year=dd*86400:=by unfold untilZ;rw [Hj1.out,Hdd.out];rfl
    have hfz:firstZ rs Z.eras=F1:=(firstZ_is hne).trans HF1.out
    have hmk:erasK ⟨rs,zs,ls⟩ F1 (dd*86400) year Z.eras Z.eras.length=madeZ ⟨rs,zs,ls⟩ Z:=by
     unfold erasK madeZ;rw [List.take_length,hyz,huz,hfz]
    rw [hmk] at HMo;obtain ⟨mm,hmm⟩:∃ mm,(madeZ ⟨rs,zs,ls⟩ Z).1=mm:=⟨_,rfl⟩;rw [hmm] at HMo;obtain ⟨ss,over⟩:=mm;have hR:=HR.out;rw [hmm] at hR;have v1:=HFm.out.mp.cell 0;obtain ⟨vs,hblk,hown⟩:=HMo.out;have b1:=hblk.cell
    simp only [MoV,List.getElem?_toArray,List.getElem?_cons_zero] at v1 b1
    cases over
    ·rw [if_neg (by simp)] at hR
     subst hR;have HOw:=hid hown;have HMm:=hid hmm;clear hown hmk hblk
     have hlt:Z.eras.length - 1<Z.eras.length:=by omega
     obtain ⟨ad,hA,hadb,a0,a1,a2,a3,a4,a5,a6,a7,a8,a9,a10,a11,a12⟩:=era_cells (HRe.out.below HFm.out.fr.bel) hlt rfl;obtain ⟨x,hx⟩:∃ x,Z.eras[Z.eras.length - 1]=x:=⟨_,rfl⟩;rw [hx] at a0 a1 a2 a3 a4 a5 a6 a7 a8 a9 a10 a11 a12
     have hlast:Z.eras.getLast?=some x:=by rw [List.getLast?_eq_getElem?,List.getElem?_eq_getElem hlt,hx]
     have hci:((Z.eras.length:Nat):Int) - 1=((Z.eras.length - 1:Nat):Int):=by omega
     obtain ⟨N1,hN1⟩:∃ N1,N1=Z.eras.length - 1:=⟨_,rfl⟩;rw [<-hN1] at hlt hci a0 a1 a2 a3 a4 a5 a6 a7 a8 a9 a10 a11 a12
     have hT:tableZ ⟨rs,zs,ls⟩ Z=⟨Z.name,F1,ss,dd*86400,evT (setL rs x.rules),offT (setL rs x.rules) x.off,fmT (setL rs x.rules) x.format⟩:=by
      have h1:tailZ rs Z.eras=evT (setL rs x.rules):=by unfold tailZ;rw [hlast];rfl
      have h2:offZ rs Z.eras=offT (setL rs x.rules) x.off:=by unfold offZ;rw [hlast];simp only [h1];rfl
      have h3:formatZ rs Z.eras=fmT (setL rs x.rules) x.format:=by unfold formatZ;rw [hlast];simp only [h1];rfl
      unfold tableZ;simp only [hyz,huz,hfz,hmm,h1,h2,h3]
     clear hx hlast hN1 hmm hyz huz hfz;obtain ⟨x0,x1,x2,x3,x4,x5,x6,⟨s0,s1,s2,s3,s4,s5⟩⟩:=x;simp only at a0 a1 a2 a3 a4 a5 a6 a7 a8 a9 a10 a11 a12;have k3:=fun o i=>(HFm.out.fr.src.alloc o).cell i;have y3:=HFm.out.fr.zon.cell;have hEB:Blk (wr.alloc (.cells #[.int .i64 x0,.int .i64 x1,.int .i64 x2,.string x3,.string x4,.bool x5,.int .i64 x6,.int .i64 s0,.int .i64 s1,.int .i64 s2,.int .i64 s3,.int .i64 s4,.int .i64 s5] 84)) wr.heap.size 84 #[.int .i64 x0,.int .i64 x1,.int .i64 x2,.string x3,.string x4,.bool x5,.int .i64 x6,.int .i64 s0,.int .i64 s1,.int .i64 s2,.int .i64 s3,.int .i64 s4,.int .i64 s5]:=Blk.new _ _ _;have ke:=hEB.cell;have hfa:=HFm.out.alloc (.cells #[.int .i64 x0,.int .i64 x1,.int .i64 x2,.string x3,.string x4,.bool x5,.int .i64 x6,.int .i64 s0,.int .i64 s1,.int .i64 s2,.int .i64 s3,.int .i64 s4,.int .i64 s5] 84);have hma:=HMo.out.step ((Below.refl wr.heap.size wr).alloc (Nat.le_refl _) (.cells #[.int .i64 x0,.int .i64 x1,.int .i64 x2,.string x3,.string x4,.bool x5,.int .i64 x6,.int .i64 s0,.int .i64 s1,.int .i64 s2,.int .i64 s3,.int .i64 s4,.int .i64 s5] 84));have HFa:=hid hfa;have HMa:=hid hma;have HEB:=hid hEB;clear hfa hma hEB;have hLl:(setL rs x3).length<=1000000:=Nat.le_trans (setL_len rs x3) hnr;obtain ⟨L,hL⟩:∃ L,setL rs x3=L:=⟨_,rfl⟩;have hse:=HE.out x3;rw [hL] at hse hLl;simp only at hT;rw [hL] at hT;have HT:=hid hT;clear hT;have HSe:=hid hse;have HL:=hid hL;clear hse hL
     go_wp2_with (go_at_call 41;refine (HSe.out _ HFa.out.fr.bel).mono ?_;rintro e w7 ⟨v,rfl,hlown,hb⟩;obtain ⟨Av,cv,rfl⟩:=own_slice hlown;have HF8:=hid (HFa.out.step hb);have HM8:=hid (HMa.out.step hb);have HE8:=hid (HEB.out.below hb HEB.out.lt);have HLo:=hid hlown;clear hb hlown k3 y3 ke)
     obtain ⟨vs7,hb7,ho7⟩:=HM8.out;obtain ⟨Avs,cvs,rfl⟩:=own_sl ho7;have Hb7:=hid hb7;have Ho7:=hid ho7
     have hne7:=own_blk_ne ho7 hb7 (by decide)
     have hneL:=own_blk_ne HLo.out hb7 (by decide)
     have HneL:=hid hneL;have Hne7:=hid hne7;have hs7:=HF8.out.fr.bel.size;have hm7:=hb7.lt;have hlo1:=HF8.out.fr.lo;have hlo2:=HF8.out.lom;have hEl:=HE8.out.lt;have hEg:bm+1<wr.heap.size:=HFm.out.mp.lt;have hmp7:=HF8.out.mp.lt;clear hb7 ho7 hne7 hneL HM8 HMo HMa HFa HEB
     refine (wpIn_wide (n:=3)).1 ?_
     refine wpIn_loop (F:=Fence.wide) (n:=3) (fun a' W=>∃ j:Nat,j<=L.length/\Kx bm w7 W/\Below w.heap.size w W/\∃ tv:Value,Blk W bm 81 (MoV Z.name F1 (.slice Avs ss.length cvs) (dd*86400) tv (offT (L.take j) x0) (fmT (L.take j) x4) false)/\W.ownsRow w7.heap.size 69 11 tv (evT (L.take j)).length ((evT (L.take j)).flatMap Rule.cells)/\
      ∃ u,a'={ tmps:=frT (.pointer (some ⟨w.heap.size+1,0,none⟩)) (.pointer (some ⟨bm+1,0,none⟩)) (.pointer (some ⟨wr.heap.size,0,none⟩)) (.slice Av L.length cv) (.int .i64 (L.length:Nat)) (.int .i64 (j:Nat)) u,defers:=Ds.map markD })
      (fun a' _=>L.length - (intOf (a'.tmps.getD 166 undef)).toNat) ?st2 ?rd2
     case st2=>exact ⟨0,Nat.zero_le _,Kx.refl _ _,HF8.out.fr.bel,.slice none 0 0,Hb7.out,⟨by simp [evT],.inl ⟨rfl,rfl⟩⟩,act_ft (by kernel_rfl)⟩
     case rd2=>
      rintro a' W ⟨j,hj,hkx,hbel,tv,hmk,hrow,u,hact⟩;have HKx:=hid hkx;have HBel:=hid hbel;have HMk:=hid hmk;have HRow:=hid hrow;have hsW:=hkx.size;clear hkx hbel hmk hrow
      refine wpIn_wide.2 ?_
      simp only [frT] at hact;subst hact
      by_cases hjn:j<L.length
      ·have hlr:Reads W W.heap.size 11 Av L.length (L.flatMap Rule.cells):=Reads.of_own (HKx.out.own HLo.out HneL.out)
       obtain ⟨aq,hAv,_,r0,r1,r2,r3,r4,r5,r6,r7,r8,r9,r10⟩:=rule_cells hlr hjn;have hev:=evT_step hjn;obtain ⟨q,hq⟩:∃ q,L[j]=q:=⟨_,rfl⟩;rw [hq] at r0 r1 r2 r3 r4 r5 r6 r7 r8 r9 r10 hev;clear hq hlr;obtain ⟨y0,y1,y2,y3,y4,y5,y6,y7,y8,y9,y10⟩:=q;simp only at r0 r1 r2 r3 r4 r5 r6 r7 r8 r9 r10 hev;have hrb:Blk (W.alloc (.cells #[.string y0,.int .i64 y1,.int .i64 y2,.int .i64 y3,.int .i64 y4,.int .i64 y5,.int .i64 y6,.int .i64 y7,.int .i64 y8,.int .i64 y9,.string y10] 69)) W.heap.size 69 #[.string y0,.int .i64 y1,.int .i64 y2,.int .i64 y3,.int .i64 y4,.int .i64 y5,.int .i64 y6,.int .i64 y7,.int .i64 y8,.int .i64 y9,.string y10]:=Blk.new _ _ _;have kr:=hrb.cell;have HRb:=hid hrb;clear hrb
       by_cases hy:y2=1000000
       ·rw [if_pos hy] at hev
        have Hev:=hid hev;subst hy;clear hev;subst hAv;obtain ⟨Atv,ctv,rfl⟩:=own_sl HRow.out
        have hmp:=HKx.out.blk HF8.out.mp (by omega)
        have heb:=HKx.out.blk HE8.out (by omega)
        obtain ⟨i1,hi1,hy0,hy1,hy2⟩:=info_parts info_rule
        have hne8:=own_blk_ne HRow.out HMk.out (by decide)
        have hll:(evT (L.take j)).length<=L.length:=by
         have h1:=List.length_filter_le (fun r:Rule=>decide (r.hi=1000000)) (L.take j);have h2:=List.length_take (i:=j) (l:=L);unfold evT;omega
        obtain ⟨V,hV⟩:∃ V,W.alloc (.cells #[.string y0,.int .i64 y1,.int .i64 1000000,.int .i64 y3,.int .i64 y4,.int .i64 y5,.int .i64 y6,.int .i64 y7,.int .i64 y8,.int .i64 y9,.string y10] 69)=V:=⟨_,rfl⟩;have hrowV:=HRow.out.alloc (.cells #[.string y0,.int .i64 y1,.int .i64 1000000,.int .i64 y3,.int .i64 y4,.int .i64 y5,.int .i64 y6,.int .i64 y7,.int .i64 y8,.int .i64 y9,.string y10] 69);have hmkV:=HMk.out.alloc (.cells #[.string y0,.int .i64 y1,.int .i64 1000000,.int .i64 y3,.int .i64 y4,.int .i64 y5,.int .i64 y6,.int .i64 y7,.int .i64 y8,.int .i64 y9,.string y10] 69);have hmpV:=hmp.alloc (.cells #[.string y0,.int .i64 y1,.int .i64 1000000,.int .i64 y3,.int .i64 y4,.int .i64 y5,.int .i64 y6,.int .i64 y7,.int .i64 y8,.int .i64 y9,.string y10] 69);have hebV:=heb.alloc (.cells #[.string y0,.int .i64 y1,.int .i64 1000000,.int .i64 y3,.int .i64 y4,.int .i64 y5,.int .i64 y6,.int .i64 y7,.int .i64 y8,.int .i64 y9,.string y10] 69);have hkxV:=HKx.out.alloc (.cells #[.string y0,.int .i64 y1,.int .i64 1000000,.int .i64 y3,.int .i64 y4,.int .i64 y5,.int .i64 y6,.int .i64 y7,.int .i64 y8,.int .i64 y9,.string y10] 69);have hbelV:=HBel.out.alloc HBel.out.size (.cells #[.string y0,.int .i64 y1,.int .i64 1000000,.int .i64 y3,.int .i64 y4,.int .i64 y5,.int .i64 y6,.int .i64 y7,.int .i64 y8,.int .i64 y9,.string y10] 69);have hrbV:=HRb.out;rw [hV] at hrowV hmkV hmpV hebV hkxV hbelV hrbV;obtain ⟨T,hT⟩:∃ T,evT (L.take j)=T:=⟨_,rfl⟩;rw [hT] at hrowV;obtain ⟨oT,hoT⟩:∃ o,offT (L.take j) x0=o:=⟨_,rfl⟩;obtain ⟨fT,hfT⟩:∃ o,fmT (L.take j) x4=o:=⟨_,rfl⟩;rw [hT] at hll Hev;rw [hoT,hfT] at hmkV;have HMV:=hid hmkV;have HRV:=hid hrowV;have HKV:=hid hkxV;have HBV:=hid hbelV;have HPV:=hid hmpV;have HEV:=hid hebV;have b1:=HMV.out.cell;have b1a:=fun o i=>(HMV.out.alloc o).cell i;have m1:=HPV.out.cell 0;have m1a:=fun o=>(HPV.out.alloc o).cell 0;have kv:=hrbV.cell
        have M1:=hid (show T.length+1<=maxLen by unfold maxLen;omega)
        have M2:=hid (show (T.length+1)*104<=140737488355328 by omega)
        have M3:=hid (show w7.heap.size<=V.drew.heap.size from hkxV.size);have HrbV:=hid hrbV;simp only [hT] at HRV HMV;clear hmp heb hmkV hrowV hkxV hbelV hmpV hebV hne8 hll hoT hfT hT
        simp only [MoV,List.getElem?_toArray,List.getElem?_cons_zero] at b1 b1a m1 m1a
        go_wp2_with fail
        try rw [hV]
        clear kr r0 r1 r2 r3 r4 r5 r6 r7 r8 r9 r10 hV
        refine wp_mono (Q:=Exit.then (fun a' W'=>∃ (gt capt:Nat) (wB:World),W'=wB.setCell ⟨bm,6,none⟩ (.slice (some ⟨gt,0,none⟩) (T.length+1) capt)/\Blk wB bm 81 (MoV Z.name F1 (.slice Avs ss.length cvs) (dd*86400) (.slice Atv T.length ctv) (oT) (fT) false)/\wB.ownsRow w7.heap.size 69 11 (.slice (some ⟨gt,0,none⟩) (T.length+1) capt) (T.length+1) (T.flatMap Rule.cells++#[.string y0,.int .i64 y1,.int .i64 1000000,.int .i64 y3,.int .i64 y4,.int .i64 y5,.int .i64 y6,.int .i64 y7,.int .i64 y8,.int .i64 y9,.string y10].toList)/\(V.drew.alloc (.cells #[.string y0,.int .i64 y1,.int .i64 1000000,.int .i64 y3,.int .i64 y4,.int .i64 y5,.int .i64 y6,.int .i64 y7,.int .i64 y8,.int .i64 y9,.string y10] 69)).grownBy wB (Value.slice Atv T.length ctv).ownBlock/\∃ u2,a'={ tmps:=frT (.pointer (some ⟨w.heap.size+1,0,none⟩)) (.pointer (some ⟨bm+1,0,none⟩)) (.pointer (some ⟨wr.heap.size,0,none⟩)) (.slice (some aq) L.length cv) (.int .i64 (L.length:Nat)) (.int .i64 (j:Nat)) u2,defers:=Ds.map markD }) (fun _ _ _=>False)) ?_ ?_
        ·clear HPh HEnd HE HRe HEr HTr HYear Hdd Hj1 HF1 HKx HBel HMk HRow HRb Hev HKV HBV HEV HF8 HE8 HLo HneL Hne7 Hb7 Ho7 HT HTm HSe HL HR heq b1 b1a m1 m1a kv
         have b1:=HMV.out.cell;have b1a:=fun o i=>(HMV.out.alloc o).cell i;have m1:=HPV.out.cell 0;have m1a:=fun o=>(HPV.out.alloc o).cell 0;have kv:=HrbV.out.cell;have kva:=fun o i=>(HrbV.out.alloc o).cell i
         simp only [MoV,List.getElem?_toArray,List.getElem?_cons_zero] at b1 b1a m1 m1a
         go_region_law (refine step_append1 V.drew rfl (.tmp 178) (.tmp 180) 22 rfl w7.heap.size 69 i1 _ 11 104 underlying22 hi1 hy0 hy1 hy2 rfl (by decide) _ T.length (T.flatMap Rule.cells) (by simp [Act.eval]) HRV.out.drew (by simp [Act.eval]) rfl one_rule M1.out M2.out M3.out ?_;intro v' wB ho5 hg5;obtain ⟨gt,capt,rfl,_,_⟩:=ho5.form (Nat.succ_pos _);have hb5:=Blk.grown (HMV.out.drew.alloc _) hg5 (fun e=>own_blk_ne HRV.out HMV.out (by decide) e.symm);have c5:=hb5.cell;have f5:=hb5.frozen;have hp5:=Blk.grown (HPV.out.drew.alloc _) hg5 (fun e=>own_blk_ne HRV.out HPV.out (by decide) e.symm);have m5:=hp5.cell 0;simp only [MoV,List.getElem?_toArray,List.getElem?_cons_zero] at c5 m5;have HB5:=hid hb5;have HO5:=hid ho5;have HG5:=hid hg5;clear hb5 ho5 hg5 hp5 b1 b1a m1 m1a kv kva)
         all_goals (first|exact ⟨_,_,_,rfl,HB5.out,HO5.out,HG5.out,act_ft (by kernel_rfl)⟩|(show Exists _;exact ⟨_,_,_,rfl,HB5.out,HO5.out,HG5.out,act_ft (by kernel_rfl)⟩)|(simp only [Exit.then];exact ⟨_,_,_,rfl,HB5.out,HO5.out,HG5.out,act_ft (by kernel_rfl)⟩))
        ·rintro e a' W' hpost
         obtain ⟨rfl,gt,capt,wB,rfl,hb5,ho5,hg5,u2,hact⟩:=then_normal hpost;simp only [frT] at hact;subst hact
         have hb6:Blk (wB.setCell ⟨bm,6,none⟩ (.slice (some ⟨gt,0,none⟩) (T.length+1) capt)) bm 81 (MoV Z.name F1 (.slice Avs ss.length cvs) (dd*86400) (.slice (some ⟨gt,0,none⟩) (T.length+1) capt) (oT) (fT) false):=by simpa [MoV] using hb5.set_ 6 (.slice (some ⟨gt,0,none⟩) (T.length+1) capt)
         have ho6:=ownsRow_setCell_other ho5 (a:=⟨bm,6,none⟩) (own_blk_ne ho5 hb5 (by decide)) (.slice (some ⟨gt,0,none⟩) (T.length+1) capt)
         have hk6:=(((HKV.out.drew.alloc (.cells #[.string y0,.int .i64 y1,.int .i64 1000000,.int .i64 y3,.int .i64 y4,.int .i64 y5,.int .i64 y6,.int .i64 y7,.int .i64 y8,.int .i64 y9,.string y10] 69)).grown hg5 (fun r e=>(HRV.out.lt r e).1)).set 6 (.slice (some ⟨gt,0,none⟩) (T.length+1) capt))
         have hl6:=(((HBV.out.drew.alloc HBV.out.size (.cells #[.string y0,.int .i64 y1,.int .i64 1000000,.int .i64 y3,.int .i64 y4,.int .i64 y5,.int .i64 y6,.int .i64 y7,.int .i64 y8,.int .i64 y9,.string y10] 69)).grown hg5 (by have:=HBV.out.size;simp;omega) (fun r e=>Nat.le_trans hs7 (HRV.out.lt r e).1)).setCell (p:=⟨bm,6,none⟩) (by show w.heap.size<=bm;omega) (.slice (some ⟨gt,0,none⟩) (T.length+1) capt))
         obtain ⟨W5,hW5⟩:∃ W5,wB.setCell ⟨bm,6,none⟩ (.slice (some ⟨gt,0,none⟩) (T.length+1) capt)=W5:=⟨_,rfl⟩;rw [hW5] at hb6 ho6 hk6 hl6 ⊢
         have m6:=(hk6.blk HF8.out.mp (by omega)).cell 0
         have e6:=fun i=>(hk6.blk HE8.out (by omega)).cell i
         have b6:=hb6.cell;have f6:=hb6.frozen
         simp only [MoV,List.getElem?_toArray,List.getElem?_cons_zero] at m6 b6
         have Hb6:=hid hb6;have Ho6:=hid ho6;have Hk6:=hid hk6;have Hl6:=hid hl6;clear hW5 hb5 ho5 hg5 hb6 ho6 hk6 hl6 b1 b1a m1 m1a kv
         have hwb:¬ wr.heap.size=bm:=by omega
         have hwc:¬ bm=wr.heap.size:=by omega
         go_wp2_with fail
         go_region
         have hb8:Blk (((W5.setCell ⟨bm,7,none⟩ (.int .i64 x0)).setCell ⟨bm,8,none⟩ (.string x4)).drew) bm 81 (MoV Z.name F1 (.slice Avs ss.length cvs) (dd*86400) (.slice (some ⟨gt,0,none⟩) (T.length+1) capt) x0 x4 false):=by
          have:=((Hb6.out.set_ 7 (.int .i64 x0)).set_ 8 (.string x4)).drew
          simpa [MoV] using this
         have hn6:=own_blk_ne Ho6.out Hb6.out (by decide)
         have ho8:=own_dr (ownsRow_setCell_other (ownsRow_setCell_other Ho6.out (a:=⟨bm,7,none⟩) hn6 (.int .i64 x0)) (a:=⟨bm,8,none⟩) hn6 (.string x4));have hk8:=((Hk6.out.set 7 (.int .i64 x0)).set 8 (.string x4)).drew
         have hl8:=((Hl6.out.setCell (p:=⟨bm,7,none⟩) (by show w.heap.size<=bm;omega) (.int .i64 x0)).setCell (p:=⟨bm,8,none⟩) (by show w.heap.size<=bm;omega) (.string x4)).drew
         obtain ⟨W9,hW9⟩:∃ W9,((W5.setCell ⟨bm,7,none⟩ (.int .i64 x0)).setCell ⟨bm,8,none⟩ (.string x4)).drew=W9:=⟨_,rfl⟩;rw [hW9] at hb8 ho8 hk8 hl8 ⊢
         have hof:offT (L.take (j+1)) x0=x0:=by unfold offT;rw [Hev.out];simp
         have hfm:fmT (L.take (j+1)) x4=x4:=by unfold fmT;rw [Hev.out];simp
         have hrw:W9.ownsRow w7.heap.size 69 11 (.slice (some ⟨gt,0,none⟩) (T.length+1) capt) (evT (L.take (j+1))).length ((evT (L.take (j+1))).flatMap Rule.cells):=by
          rw [Hev.out]
          simpa [Rule.cells] using ho8
         have Hb8:=hid hb8;have Hk8:=hid hk8;have Hl8:=hid hl8;have Hof:=hid hof;have Hfm:=hid hfm;have Hrw:=hid hrw;clear hb8 ho8 hk8 hl8 hof hfm hrw hW9 b6 f6 e6 m6 hn6;go_wp2
         exact ⟨⟨j+1,by omega,Hk8.out,Hl8.out,_,by rw [Hof.out,Hfm.out];exact Hb8.out,Hrw.out,(by first|exact act_ft (by kernel_rfl)|exact act_fu (by kernel_rfl))⟩,by
          show L.length - (intOf (.int .i64 ((j+1:Nat):Int))).toNat<L.length - (intOf (.int .i64 ((j:Nat):Int))).toNat
          simp only [intOf]
          omega⟩
       ·rw [if_neg hy] at hev
        have Hev:=hid hev
        have hyb:(y2 == 1000000)=false:=by simpa using hy
        clear hev hy;go_wp2
        exact ⟨⟨j+1,by omega,HKx.out.alloc _,HBel.out.alloc HBel.out.size _,tv,by unfold offT fmT;rw [Hev.out];exact HMk.out.alloc _,by rw [Hev.out];exact HRow.out.alloc _,(by first|exact act_ft (by kernel_rfl)|exact act_fu (by kernel_rfl))⟩,by
         show L.length - (intOf (.int .i64 ((j+1:Nat):Int))).toNat<L.length - (intOf (.int .i64 ((j:Nat):Int))).toNat
         simp only [intOf]
         omega⟩
      ·obtain rfl:j=L.length:=by omega
       rw [List.take_length] at HMk HRow;obtain ⟨Atv,ctv,rfl⟩:=own_sl HRow.out;have b1:=HMk.out.cell
       have m1:=(HKx.out.blk HF8.out.mp (by omega)).cell 0
       have hres:=HKx.out.blk HF8.out.fr.res (by omega)
       have t1:=hres.cell;have t1f:=hres.frozen;have HRes:=hid hres
       simp only [MoV,List.getElem?_toArray,List.getElem?_cons_zero] at b1 m1
       clear hres;go_wp2;have htab:=tab_set HRes.out (.string Z.name) (.int .i64 F1.off) (.int .i64 F1.save) (.string F1.abbr) (.slice Avs ss.length cvs) (.int .i64 (dd*86400)) (.slice Atv (evT L).length ctv) (.int .i64 (offT L x0)) (.string (fmT L x4));have hbl:=tab_bel HBel.out (Nat.le_add_right w.heap.size 1) (.string Z.name) (.int .i64 F1.off) (.int .i64 F1.save) (.string F1.abbr) (.slice Avs ss.length cvs) (.int .i64 (dd*86400)) (.slice Atv (evT L).length ctv) (.int .i64 (offT L x0)) (.string (fmT L x4));have hvs:=HKx.out.own Ho7.out Hne7.out
       have e1:=own_blk_ne hvs HRes.out (by decide)
       have e2:=own_blk_ne HRow.out HRes.out (by decide)
       rw [HT.out]
       exact comp_end (T:=⟨Z.name,F1,ss,dd*86400,evT L,offT L x0,fmT L x4⟩) (v:= .slice Avs ss.length cvs) (tv:= .slice Atv (evT L).length ctv) (by omega) (mks_set (by omega) (HKx.out.mks HF8.out.mks (by omega)) _ _ _ _ _ _ _ _ _) htab (own_set9 hvs e1 _ _ _ _ _ _ _ _ _) (own_set9 (own_base HRow.out hs7) e2 _ _ _ _ _ _ _ _ _) hbl rfl rfl
    ·rw [if_pos rfl] at hR
     subst hR;have t1:=HFm.out.fr.res.cell;have t1f:=HFm.out.fr.res.frozen;clear hown hblk hmk hmm HMo hyz huz hfz;go_wp2;have htab:=tab_set HFm.out.fr.res (.string ⟨#[]⟩) (.int .i64 0) (.int .i64 0) (.string ⟨#[]⟩) (.slice none 0 0) (.int .i64 0) (.slice none 0 0) (.int .i64 0) (.string ⟨#[]⟩);have hbel:=tab_bel HFm.out.fr.bel (Nat.le_add_right w.heap.size 1) (.string ⟨#[]⟩) (.int .i64 0) (.int .i64 0) (.string ⟨#[]⟩) (.slice none 0 0) (.int .i64 0) (.slice none 0 0) (.int .i64 0) (.string ⟨#[]⟩);have hlo1:=HFm.out.fr.lo;have hlo2:=HFm.out.lom
     exact comp_end (T:=noTable) (v:= .slice none 0 0) (tv:= .slice none 0 0) (by omega) (mks_set (by omega) HFm.out.mks _ _ _ _ _ _ _ _ _) htab ⟨by simp [noTable],.inl ⟨rfl,rfl⟩⟩ ⟨by simp [noTable],.inl ⟨rfl,rfl⟩⟩ hbel rfl rfl
end Cmq
end
end
section
section
namespace Cmq
open Go.RowKit Mem Civ Mom Img Plc Rul Ahd Src Snd Att Rgt Abr
def nmA:ByteArray:=⟨#[65]⟩
def nmE:ByteArray:=⟨#[69]⟩
def fmC:ByteArray:=⟨#[67,37,115,84]⟩
def rE1:Rule:=⟨nmE,1990,1000000,3,1,7,0,3600,2,3600,⟨#[83]⟩⟩
def rE2:Rule:=⟨nmE,1990,1000000,10,1,7,0,3600,2,0,⟨#[]⟩⟩
def eraS:Era:=⟨3600,2,0,nmE,fmC,false,0,⟨0,0,0,0,0,0⟩⟩
def znS (A:Option Addr) (c:Nat):ZoneM:=⟨nmA,[eraS],A,c⟩
def smS (A:Option Addr) (c:Nat):Src:=⟨[rE1,rE2],[znS A c],[]⟩
def tabS:Table:=tableZ (smS none 0) (znS none 0)
theorem check_sm (A:Option Addr) (c:Nat):checkB (smS A c)=noFlaw:=by kernel_rfl
theorem made_sm (A:Option Addr) (c:Nat):madeZ (smS A c) (znS A c)=madeZ (smS none 0) (znS none 0):=rfl
theorem table_sm (A:Option Addr) (c:Nat):tableZ (smS A c) (znS A c)=tabS:=rfl
theorem over_sm:(madeZ (smS none 0) (znS none 0)).1.2=false:=by kernel_rfl
theorem compile_sm (A:Option Addr) (c:Nat):compileP (smS A c) 0=(tabS,0):=by
 have e:(smS A c).zones[(0:Int).toNat]?=some (znS A c):=rfl;unfold compileP;rw [if_pos ⟨check_sm A c,Int.le_refl _⟩,e];simp only
 rw [if_neg (by rw [made_sm,over_sm];decide),table_sm]
theorem len_sm:tabS.shifts.length=100:=by kernel_rfl
theorem tail_sm:tabS.tail=[rE1,rE2]:=by kernel_rfl
theorem till_sm:tabS.till=2208988800:=by kernel_rfl
def phS:Phase:=⟨7200,3600,⟨#[67,83,84]⟩⟩
theorem right_sm:rightB tabS (tailB tabS)=true:=by kernel_rfl
theorem at1_sm:atP tabS 1625097600=(phS,true):=by
 unfold atP;rw [if_pos right_sm]
 kernel_rfl
theorem at2_sm:atP tabS 32519318400=(phS,true):=by
 unfold atP;rw [if_pos right_sm]
 kernel_rfl
end Cmq
end
end
end Go.Proofs.YtadamccojdocbaaGreatDoor
