/-
  Contracts of the code that the law reaches, and plain laws. Conditions: as each says.
-/
import Derived.Test.YtiiekaehbahenaaGreatDoorV15
set_option linter.all false
set_option maxHeartbeats 40000000
set_option maxRecDepth 100000
namespace Go.Proofs.YtiiekaehbahenaaGreatDoor
open Lib (hid)
open Tryz
section
namespace Gr
open Go.RowKit Mem Atl
def mlN (y:Int) (m:Nat):Nat:=(Civ.mlen y m).toNat
abbrev partC (y m d:Int) (has:Bool) (h mi sc ns kind off:Int) (zone:Txt):Array Value:=#[.int .i64 y,.int .i64 m,.int .i64 d,.bool has,.int .i64 h,.int .i64 mi,.int .i64 sc,.int .i64 ns,.int .i64 kind,.int .i64 off,.string ⟨zone.toArray⟩]
def partV (p:PartT):Value:= .agg (partC p.d.y p.d.m p.d.d p.t.isSome ((p.t.map (·.h)).getD 0:Nat) ((p.t.map (·.m)).getD 0:Nat) ((p.t.map (·.s)).getD 0:Nat) ((p.t.map (·.ns)).getD 0:Nat) p.kind p.off p.zone)
def zPartV:Value:= .agg (partC 0 0 0 false 0 0 0 0 0 0 [])
def parseV (r:Except Nat PartT):Value:=match r with
 | .ok p=> .tuple #[partV p,.int .i64 0]
 | .error n=> .tuple #[zPartV,.int .i64 n]
theorem set11 {W:World} {b:Nat} {T:TypeId} {a0 a1 a2 a3 a4 a5 a6 a7 a8 a9 a10:Value} (x0 x1 x2 x3 x4 x5 x6 x7 x8 x9 x10:Value) (h:Blk W b T #[a0,a1,a2,a3,a4,a5,a6,a7,a8,a9,a10]):
  Blk (((((((((((W.setCell ⟨b,0,none⟩ x0).setCell ⟨b,1,none⟩ x1).setCell ⟨b,2,none⟩ x2).setCell ⟨b,3,none⟩ x3).setCell ⟨b,4,none⟩ x4).setCell ⟨b,5,none⟩ x5).setCell ⟨b,6,none⟩ x6).setCell ⟨b,7,none⟩ x7).setCell ⟨b,8,none⟩ x8).setCell ⟨b,9,none⟩ x9).setCell ⟨b,10,none⟩ x10) b T #[x0,x1,x2,x3,x4,x5,x6,x7,x8,x9,x10]:=by
 simpa using ((((((((((h.set_ 0 x0).set_ 1 x1).set_ 2 x2).set_ 3 x3).set_ 4 x4).set_ 5 x5).set_ 6 x6).set_ 7 x7).set_ 8 x8).set_ 9 x9).set_ 10 x10
theorem kps {P:Nat->Prop} {w W:World} {b:Nat} (hP:P b) (i:Nat) (x:Value) (h:Kp P w W):Kp P w (W.setCell ⟨b,i,none⟩ x):=h.set (p:=⟨b,i,none⟩) hP x
theorem clear_parse (X:Nat) (w:World) (a0 a1 a2 a3 a4 a5 a6 a7 a8 a9 a10:Value) (h:Blk w X 40 #[a0,a1,a2,a3,a4,a5,a6,a7,a8,a9,a10]):
  Calls prog 39 #[.pointer (some ⟨X,0,none⟩)] w fun e w'=>e= .returned (.tuple #[])/\Blk w' X 40 (partC 0 0 0 false 0 0 0 0 0 0 [])/\Kp (·=X) w w':=by
 go_enter func39,ntmps39;have cB:=h.cell;have fB:=h.frozen;have H:=hid h;clear h;go_wp2
 go_end0
 refine ⟨rfl,set11 _ _ _ _ _ _ _ _ _ _ _ H.out,?_⟩
 iterate 11 refine kps (P:=(·=X)) rfl _ _ ?_
 exact Kp.refl _ _
theorem parse_results {w:World} {X E:Nat} {a0 a1 a2 a3 a4 a5 a6 a7 a8 a9 a10:Value} {n:Int} (h:Blk w X 40 #[a0,a1,a2,a3,a4,a5,a6,a7,a8,a9,a10]) (h':Blk w E 24 #[.int .i64 n]) (tmps:Array Value) (h2:tmps[2]?=some (.pointer (some ⟨X,0,none⟩))) (h3:tmps[3]?=some (.pointer (some ⟨E,0,none⟩))):
  (results Tryz.f13 tmps).run prog w= .ok (.tuple #[.agg #[a0,a1,a2,a3,a4,a5,a6,a7,a8,a9,a10],.int .i64 n]) w:=by
 have hc:=h.cell;have hc':=h'.cell;simp [results,Tryz.results13,go_sem,hc,hc',h2,h3]
theorem parse_fail {w W:World} {n:Nat} {ce a0 a1 a2 a3 a4 a5 a6 a7 a8 a9 a10:Value} {r:Except Nat PartT} (hr:r= .error n) (bX:Blk W w.heap.size 40 #[a0,a1,a2,a3,a4,a5,a6,a7,a8,a9,a10]) (bE:Blk W (w.heap.size+1) 24 #[ce]) (hb:Below w.heap.size w W)
  {tmps:Array Value} (h2:tmps[2]?=some (.pointer (some ⟨w.heap.size,0,none⟩))) (h3:tmps[3]?=some (.pointer (some ⟨w.heap.size+1,0,none⟩))):
  bodyPostD prog Tryz.f13 (fun e w'=>e= .returned (parseV r)/\Below w.heap.size w w') (Exit.panic [{ v:= .iface 24 (.int .i64 n),recovered:=false }])
   { tmps:=tmps,defers:=[{ target:=Target.fn (Fn.func 15) #[],args:=#[.pointer (some ⟨w.heap.size+1,0,none⟩),.func (.func 39) #[] #[.pointer (some ⟨w.heap.size,0,none⟩)]] }] } W:=by
 subst hr
 refine leaves_cons (f:=15) (args:=#[.pointer (some ⟨w.heap.size+1,0,none⟩),.func (.func 39) #[] #[.pointer (some ⟨w.heap.size,0,none⟩)]]) (by simp) (by simp [go_sem]) ?_
 refine (catch_parse (w.heap.size+1) _ n [] W _ bE _ (clear_parse w.heap.size _ _ _ _ _ _ _ _ _ _ _ _ (bX.far (p:=⟨w.heap.size+1,0,none⟩) (by show w.heap.size≠w.heap.size+1;omega) _))).mono ?_
 rintro e u' w'' ⟨rfl,rfl,bX2,kp2⟩
 have bE2:=kp2.blk (bE.set_ 0 (.int .i64 n)) (by show w.heap.size+1≠w.heap.size;omega)
 exact ⟨_,parse_results bX2 bE2 _ h2 h3,rfl,(hb.setCell (by simp) _).trans (kp2.bel (by have:=hb.size;simp;omega) (fun k hk=>by omega))⟩
theorem parse_ok {w W:World} {a0 a1 a2 a3 a4 a5 a6 a7 a8 a9 a10:Value} {r:Except Nat PartT} (hr:parseV r= .tuple #[.agg #[a0,a1,a2,a3,a4,a5,a6,a7,a8,a9,a10],.int .i64 0]) (bX:Blk W w.heap.size 40 #[a0,a1,a2,a3,a4,a5,a6,a7,a8,a9,a10]) (bE:Blk W (w.heap.size+1) 24 #[.int .i64 0]) (hb:Below w.heap.size w W)
  {tmps:Array Value} (h2:tmps[2]?=some (.pointer (some ⟨w.heap.size,0,none⟩))) (h3:tmps[3]?=some (.pointer (some ⟨w.heap.size+1,0,none⟩))):
  bodyPostD prog Tryz.f13 (fun e w'=>e= .returned (parseV r)/\Below w.heap.size w w') Exit.ret
   { tmps:=tmps,defers:=[{ target:=Target.fn (Fn.func 15) #[],args:=#[.pointer (some ⟨w.heap.size+1,0,none⟩),.func (.func 39) #[] #[.pointer (some ⟨w.heap.size,0,none⟩)]] }] }
   ((((((((((((W.setCell ⟨w.heap.size,0,none⟩ a0).setCell ⟨w.heap.size,1,none⟩ a1).setCell ⟨w.heap.size,2,none⟩ a2).setCell ⟨w.heap.size,3,none⟩ a3).setCell ⟨w.heap.size,4,none⟩ a4).setCell ⟨w.heap.size,5,none⟩ a5).setCell ⟨w.heap.size,6,none⟩ a6).setCell ⟨w.heap.size,7,none⟩ a7).setCell ⟨w.heap.size,8,none⟩ a8).setCell ⟨w.heap.size,9,none⟩ a9).setCell ⟨w.heap.size,10,none⟩ a10).setCell ⟨w.heap.size+1,0,none⟩ (.int .i64 0)):=by
 have bF:=(set11 a0 a1 a2 a3 a4 a5 a6 a7 a8 a9 a10 bX).far (p:=⟨w.heap.size+1,0,none⟩) (by show w.heap.size≠w.heap.size+1;omega) (.int .i64 0)
 have hne:w.heap.size+1≠w.heap.size:=by omega
 have eF0:=(((((((((((bE.far (p:=⟨w.heap.size,0,none⟩) hne a0).far (p:=⟨w.heap.size,1,none⟩) hne a1).far (p:=⟨w.heap.size,2,none⟩) hne a2).far (p:=⟨w.heap.size,3,none⟩) hne a3).far (p:=⟨w.heap.size,4,none⟩) hne a4).far (p:=⟨w.heap.size,5,none⟩) hne a5).far (p:=⟨w.heap.size,6,none⟩) hne a6).far (p:=⟨w.heap.size,7,none⟩) hne a7).far (p:=⟨w.heap.size,8,none⟩) hne a8).far (p:=⟨w.heap.size,9,none⟩) hne a9).far (p:=⟨w.heap.size,10,none⟩) hne a10);have eF:=eF0.set_ 0 (.int .i64 0);simp only [List.setIfInBounds_toArray,List.set_cons_zero] at eF;clear eF0;have hl:=Nat.le_refl w.heap.size
 have hF:=(((((((((((hb.setCell (p:=⟨w.heap.size,0,none⟩) hl a0).setCell (p:=⟨w.heap.size,1,none⟩) hl a1).setCell (p:=⟨w.heap.size,2,none⟩) hl a2).setCell (p:=⟨w.heap.size,3,none⟩) hl a3).setCell (p:=⟨w.heap.size,4,none⟩) hl a4).setCell (p:=⟨w.heap.size,5,none⟩) hl a5).setCell (p:=⟨w.heap.size,6,none⟩) hl a6).setCell (p:=⟨w.heap.size,7,none⟩) hl a7).setCell (p:=⟨w.heap.size,8,none⟩) hl a8).setCell (p:=⟨w.heap.size,9,none⟩) hl a9).setCell (p:=⟨w.heap.size,10,none⟩) hl a10).setCell (p:=⟨w.heap.size+1,0,none⟩) (by show w.heap.size<=w.heap.size+1;omega) (.int .i64 0)
 clear bX bE hb;generalize World.setCell _ ⟨w.heap.size+1,0,none⟩ _=WF at*
 refine leaves_cons (f:=15) (args:=#[.pointer (some ⟨w.heap.size+1,0,none⟩),.func (.func 39) #[] #[.pointer (some ⟨w.heap.size,0,none⟩)]]) (by simp) (by simp [go_sem]) ?_
 refine (catch_idle (w.heap.size+1) 39 _ _).mono ?_
 rintro e u' w'' ⟨rfl,rfl,rfl⟩
 exact ⟨_,parse_results bF eF _ h2 h3,by rw [hr],hF⟩
theorem notes_cnt {nm vl:Txt->Bool} {l:Txt}:∀ {f i:Nat} {first:Bool} {zone:Txt} {out:List NoteT} {x:(Txt×List NoteT)×Nat},notesA nm vl l f i first zone out=some x->x.1.2.length+i<=out.length+x.2/\((∀ n∈out,n.value.length<=l.length)->∀ n∈x.1.2,n.value.length<=l.length)
 |0,i,first,zone,out,x,e=>by cases e
 |f+1,i,first,zone,out,x,e=>by
  rw [notesA] at e
  split at e
  ·obtain ⟨b,hb,e⟩:=Option.bind_eq_some_iff.1 e
   obtain ⟨b1,b2,b3⟩:=bra_lt hb
   split at e
   ·obtain ⟨h1,h2⟩:=notes_cnt e
    exact ⟨by omega,h2⟩
   ·split at e
    ·obtain ⟨h1,h2⟩:=notes_cnt e
     rw [List.length_append] at h1;simp only [List.length_cons,List.length_nil] at h1
     refine ⟨by omega,fun h=>h2 (fun n hn=>?_)⟩
     rcases List.mem_append.1 hn with hn|hn
     ·exact h n hn
     ·rw [List.mem_singleton] at hn
      subst hn;have:=(cut_le b.1.1 [61]).2;simp only;omega
    ·cases e
  ·cases e;exact ⟨by simp only;omega,fun h=>h⟩
structure PaS (w:World) (s:ByteArray) (cs:Array Value) (k:Nat) (W:World):Prop where
 rd:Rd W (w.heap.size+1+1) s k
 le:k<=s.size
 bX:Blk W w.heap.size 40 cs
 bE:Blk W (w.heap.size+1) 24 #[.int .i64 0]
 hb:Below w.heap.size w W
section
variable {w W X:World} {s:ByteArray} {cs:Array Value} {k j:Nat}
theorem PaS.step (h:PaS w s cs k W) (hr:Rd X (w.heap.size+1+1) s j) (hj:j<=s.size) (hk:Kp (·=w.heap.size+1+1) W X):PaS w s cs j X:=
 ⟨hr,hj,hk.blk h.bX (by show w.heap.size≠_;omega),hk.blk h.bE (by show w.heap.size+1≠_;omega),h.hb.trans (hk.bel h.hb.size (fun b e=>by omega))⟩
theorem PaS.set_ (h:PaS w s cs k W) (i:Nat) (v:Value):PaS w s (cs.setIfInBounds i v) k (W.setCell ⟨w.heap.size,i,none⟩ v):=
 ⟨Blk.far h.rd (by show w.heap.size+1+1≠w.heap.size;omega) _,h.le,h.bX.set_ i v,h.bE.far (by show w.heap.size+1≠w.heap.size;omega) _,h.hb.setCell (Nat.le_refl _) _⟩
theorem PaS.bel (h:PaS w s cs k W) (hb:Below W.heap.size W X):PaS w s cs k X:=
 ⟨Blk.below h.rd hb h.rd.lt,h.le,h.bX.below hb h.bX.lt,h.bE.below hb h.bE.lt,h.hb.trans (hb.mono h.hb.size)⟩
theorem PaS.two (h:PaS w s cs k W) {cs':Array Value} (hr:Rd X (w.heap.size+1+1) s j) (hj:j<=s.size) (hX:Blk X w.heap.size 40 cs') (hk:Kp (fun b=>b=w.heap.size+1+1\/b=w.heap.size) W X):PaS w s cs' j X:=
 ⟨hr,hj,hX,hk.blk h.bE (by show ¬ (w.heap.size+1=_\/w.heap.size+1=_);omega),h.hb.trans (hk.bel h.hb.size (fun b e=>by omega))⟩
end
theorem ts_list:(⟨#[84,116,32]⟩:ByteArray).data.toList=[84,116,32]:=rfl
def restA (s:ByteArray) (d:DateT) (t:Option TimT) (kind:Nat) (off:Int) (k:Nat):Except Nat PartT:=
 match (notesA nameB valL (tx s) (s.size+1) k true [] []).bind fun n=>if n.2<s.size then none else some (PartT.mk d t kind off n.1.1,n.1.2) with
 |none=> .error 6
 |some x=>if mlN x.1.d.y x.1.d.m<x.1.d.d then .error 5 else if calA x.2=0 then .ok x.1 else .error (calA x.2)
section
variable {s:ByteArray} {d:DateT} {t:Option TimT} {kind:Nat} {off:Int} {k k2:Nat} {zone:Txt} {out:List NoteT}
theorem rest_no (h:notesA nameB valL (tx s) (s.size+1) k true [] []=none):restA s d t kind off k= .error 6:=by rw [restA,h];rfl
theorem rest_short (h:notesA nameB valL (tx s) (s.size+1) k true [] []=some ((zone,out),k2)) (hk:k2<s.size):restA s d t kind off k= .error 6:=by
 rw [restA,h];simp only [Option.bind_some];rw [if_pos hk]
theorem rest_day (h:notesA nameB valL (tx s) (s.size+1) k true [] []=some ((zone,out),k2)) (hk:¬ k2<s.size) (hd:mlN d.y d.m<d.d):restA s d t kind off k= .error 5:=by
 rw [restA,h];simp only [Option.bind_some];rw [if_neg hk];simp only;rw [if_pos hd]
theorem rest_cal (h:notesA nameB valL (tx s) (s.size+1) k true [] []=some ((zone,out),k2)) (hk:¬ k2<s.size) (hd:¬ mlN d.y d.m<d.d):restA s d t kind off k=if calA out=0 then .ok ⟨d,t,kind,off,zone⟩ else .error (calA out):=by
 rw [restA,h];simp only [Option.bind_some];rw [if_neg hk];simp only;rw [if_neg hd]
end
theorem parse_rest_no {s:ByteArray} {d:DateT} {k:Nat} (hd:dateA (tx s) 0=some (d,k)) (ho:oneA (tx s) [84,116,32] k=false):parseA nameB valL mlN (tx s)=restA s d none 0 0 k:=by
 rw [parseA,formA,hd,tx_len];simp only [Option.bind_some];rw [ho];simp only [Bool.false_eq_true,if_false]
 rfl
theorem parse_rest_yes {s:ByteArray} {d:DateT} {t:TimT} {k k2 k3 kind:Nat} {off:Int} (hd:dateA (tx s) 0=some (d,k)) (ho:oneA (tx s) [84,116,32] k=true) (ht:timA (tx s) (k+1)=some (t,k2)) (hf:offA (tx s) k2=some ((kind,off),k3)):
  parseA nameB valL mlN (tx s)=restA s d (some t) kind off k3:=by
 rw [parseA,formA,hd,tx_len];simp only [Option.bind_some];rw [ho,ht];simp only [if_true,Option.bind_some];rw [hf]
 rfl
theorem parse_no1 {s:ByteArray} (hd:dateA (tx s) 0=none):parseA nameB valL mlN (tx s)= .error 6:=by
 rw [parseA,formA,hd];rfl
theorem parse_no2 {s:ByteArray} {d:DateT} {k:Nat} (hd:dateA (tx s) 0=some (d,k)) (ho:oneA (tx s) [84,116,32] k=true) (ht:timA (tx s) (k+1)=none):parseA nameB valL mlN (tx s)= .error 6:=by
 rw [parseA,formA,hd];simp only [Option.bind_some];rw [ho,ht];rfl
theorem parse_no3 {s:ByteArray} {d:DateT} {t:TimT} {k k2:Nat} (hd:dateA (tx s) 0=some (d,k)) (ho:oneA (tx s) [84,116,32] k=true) (ht:timA (tx s) (k+1)=some (t,k2)) (hf:offA (tx s) k2=none):parseA nameB valL mlN (tx s)= .error 6:=by
 rw [parseA,formA,hd];simp only [Option.bind_some];rw [ho,ht];simp only [if_true,Option.bind_some];rw [hf];rfl
theorem parse_text (s:ByteArray) (m:Int) (w:World) (hs:s.size<=2097152) (hm:w.cell? ⟨1,0,none⟩=some (.int .i64 m)):
  Calls prog 13 #[.string s] w fun e w'=>e= .returned (parseV (parseA nameB valL mlN (tx s)))/\Below w.heap.size w w':=by
 have hmf:∀ (fn:Fn) (first cap:Array Value) (w:World),(Instr.makeFunc fn first cap).run prog w= .ok (.func fn first cap) w:=fun _ _ _ _=>rfl
 have hb:=box3 w 40 24 51 (partC 0 0 0 false 0 0 0 0 0 0 []) #[.int .i64 0] #[.string s,.int .i64 0];have HM:=hid hm;have hmlt:=World.block_lt_of_cell? w _ hm;simp only at hmlt;have h0:PaS w s (partC 0 0 0 false 0 0 0 0 0 0 []) 0 _:=⟨hb.2.2.1,Nat.zero_le _,hb.1,hb.2.1,hb.2.2.2.1⟩;have HS:=hid h0;clear hm h0 hb;obtain ⟨R,hR⟩:∃ R,parseA nameB valL mlN (tx s)=R:=⟨_,rfl⟩;rw [hR];have HR:=hid hR;clear hR
 go_enter_defers func13,ntmps13
 go_wp2_with fail
 simp only [partC] at HS;generalize ((w.alloc (.cells #[.int .i64 0,.int .i64 0,.int .i64 0,.bool false,.int .i64 0,.int .i64 0,.int .i64 0,.int .i64 0,.int .i64 0,.int .i64 0,.string ⟨#[]⟩] 40)).alloc (.cells #[.int .i64 0] 24)).alloc (.cells #[.string s,.int .i64 0] 51)=W at*;have HD:=hid (date_any (w.heap.size+1+1) s 0 W HS.out.rd (Nat.zero_le _) hs)
 go_at_call 40
 refine HD.out.mono ?_
 rintro e w1 hr
 rcases hr.cases with ⟨hd,rfl,hg⟩|⟨d,k,hd,rfl,hrd,hk,hg⟩
 ·exact parse_fail (by rw [<-HR.out,parse_no1 hd]) (hg.blk HS.out.bX (by show w.heap.size≠_;omega)) (hg.blk HS.out.bE (by show w.heap.size+1≠_;omega)) (HS.out.hb.trans (hg.bel HS.out.hb.size (fun b e=>by omega))) rfl rfl
 have h1:=HS.out.step hrd hk hg;have cB:=h1.bX.cell;have fB:=h1.bX.frozen;have H1:=hid h1;have Hd:=hid hd;clear HD HS hr hrd hg h1 hd
 go_wp2_with fail
 have h2:=((H1.out.set_ 0 (.int .i64 d.y)).set_ 1 (.int .i64 d.m)).set_ 2 (.int .i64 d.d);simp only [List.setIfInBounds_toArray,List.set_cons_succ,List.set_cons_zero] at h2;clear cB fB H1;generalize World.setCell _ ⟨w.heap.size,2,none⟩ _=W2 at*
 have HO:=hid (one_any ⟨#[84,116,32]⟩ (by decide) (w.heap.size+1+1) s k W2 h2.rd hk hs)
 rw [ts_list] at HO;have H2:=hid h2;clear h2
 go_at_call 17
 refine HO.out.mono ?_
 rintro e w3 ⟨⟨ho,c,hc,hc0,rfl,hr,hk5⟩|⟨ho,rfl,hr⟩,hg⟩
 ·have h3:=H2.out.step hr hk5 hg
  have H3:=hid h3;have Ho:=hid ho;have cB:=h3.bX.cell;have fB:=h3.bX.frozen;clear HO hc hr hg H2 h3 ho
  go_wp2_with fail
  have h4:=H3.out.set_ 3 (.bool true);simp only [List.setIfInBounds_toArray,List.set_cons_succ,List.set_cons_zero] at h4;clear cB fB H3;generalize World.setCell _ ⟨w.heap.size,3,none⟩ _=W4 at*;have HT:=hid (time_any (w.heap.size+1+1) s (k+1) W4 h4.rd hk5 hs);have H4:=hid h4;clear h4
  go_at_call 18
  refine HT.out.mono ?_
  rintro e w5 hr
  rcases hr.cases with ⟨ht,rfl,hg⟩|⟨t,k2,ht,rfl,hrd,hk2,hg⟩
  ·exact parse_fail (by rw [<-HR.out,parse_no2 Hd.out Ho.out ht]) (hg.blk H4.out.bX (by show w.heap.size≠_;omega)) (hg.blk H4.out.bE (by show w.heap.size+1≠_;omega)) (H4.out.hb.trans (hg.bel H4.out.hb.size (fun b e=>by omega))) rfl rfl
  have h5:=H4.out.step hrd hk2 hg;have H5:=hid h5;have Ht:=hid ht;have cB:=h5.bX.cell;have fB:=h5.bX.frozen;clear HT hr hrd hg H4 h5 ht
  go_wp2_with fail
  have h6:=(((H5.out.set_ 4 (.int .i64 t.h)).set_ 5 (.int .i64 t.m)).set_ 6 (.int .i64 t.s)).set_ 7 (.int .i64 t.ns);simp only [List.setIfInBounds_toArray,List.set_cons_succ,List.set_cons_zero] at h6;clear cB fB H5;generalize World.setCell _ ⟨w.heap.size,7,none⟩ _=W6 at*
  have HF:=hid (offset_any (w.heap.size+1+1) w.heap.size s k2 W6 h6.rd hk2 hs (by omega) _ _ _ _ _ _ _ _ _ h6.bX)
  have H6:=hid h6;clear h6
  go_at_call 41
  refine HF.out.mono ?_
  rintro e w7 ⟨hg,hr⟩
  cases hf:offA (tx s) k2 with
  |none=>
   rw [hf] at hr;obtain ⟨rfl,hbx⟩:=hr
   exact parse_fail (by rw [<-HR.out,parse_no3 Hd.out Ho.out Ht.out hf]) hbx (hg.blk H6.out.bE (by show ¬ (w.heap.size+1=_\/w.heap.size+1=_);omega)) (H6.out.hb.trans (hg.bel H6.out.hb.size (fun b e=>by omega))) rfl rfl
  |some x=>
   obtain ⟨⟨kind,off⟩,k3⟩:=x;rw [hf] at hr;obtain ⟨rfl,hrd,hk3,hbx⟩:=hr;have hp:=H6.out.two hrd hk3 hbx hg;have hR:=HR.out;rw [parse_rest_yes Hd.out Ho.out Ht.out hf] at hR;clear HR Hd Ho Ht H6 HF hf hrd hbx hg hk hk5 hk2 hc0;have HR:=hid hR;have HP:=hid hp;clear hR hp;generalize w7=WN at*;generalize k3=k at*
   have HN:=hid (notes_any (w.heap.size+1+1) w.heap.size s k WN _ _ _ _ _ _ _ _ _ _ m ⟨HP.out.rd,HP.out.le,Kp.refl _ _,HP.out.bX,cell_later HP.out.hb HM.out⟩ hs (by omega) (by omega) (by omega))
   go_wp2_with fail
   go_at_call 42
   refine HN.out.mono ?_
   rintro e wa hr;unfold NP at hr
   split at hr
   rotate_left
   ·next hno=>
    obtain ⟨rfl,hg,z,hz⟩:=hr
    exact parse_fail (by rw [<-HR.out,rest_no hno]) hz (hg.blk HP.out.bE (by show ¬ (w.heap.size+1=_\/w.heap.size+1=_);omega)) (HP.out.hb.trans (hg.bel HP.out.hb.size (fun b e=>by omega))) rfl rfl
   next zone out k2 hno=>
   obtain ⟨A,c9,rfl,hown,hst⟩:=hr;have hq:=HP.out.two hst.rd hst.le hst.pb hst.kp;have HQ:=hid hq;have HO:=hid hown;have Hno:=hid hno;have HWl:=hid (whole_any (w.heap.size+1+1) s k2 wa hst.rd);clear HN HP hown hst hq hno
   go_wp2_with fail
   go_at_call 19
   refine HWl.out.mono ?_
   rintro e wb ⟨he,q,rfl⟩;have hq:=HQ.out.bel (below_drwN (Below.refl _ wa) q);have HO2:=hid (own_kp HO.out (Kp.drewN (P:=fun _=>False) wa q) (fun _ h=>h.elim));have HQ2:=hid hq;clear hq HO HQ HWl;generalize wa.drewN q=WB at*
   by_cases hk2:k2<s.size
   ·rw [if_pos hk2] at he
    subst he
    exact parse_fail (by rw [<-HR.out,rest_short Hno.out hk2]) HQ2.out.bX HQ2.out.bE HQ2.out.hb rfl rfl
   rw [if_neg hk2] at he;subst he;have hmb:=Civ.mlen_bd d.y d.m;obtain ⟨ml,hml⟩:∃ x,Civ.mlen d.y d.m=x:=⟨_,rfl⟩;rw [hml] at hmb
   have hmN:mlN d.y d.m=ml.toNat:=by rw [mlN,hml]
   obtain ⟨Cls,hCls⟩:∃ C:World->Prop,C=fun z=>Below WB.heap.size WB z:=⟨_,rfl⟩
   have hC:∀ z,Cls z->Below WB.heap.size WB z:=fun z h=>by rw [hCls] at h;exact h
   have hstart:Cls WB.drew:=by rw [hCls];exact (Below.refl _ _).drew
   have inst:Nonempty (Qt.In Cls):=⟨⟨_,hstart⟩⟩;have gE:=fun (z:Qt.In Cls) (i:Nat)=>(HQ2.out.bel (hC z.w z.h)).bX.cell i
   have hn:∀ z,Cls z->Calls prog 43 #[.int .i64 d.y,.int .i64 d.m] z fun e w'=>e= .returned (.int .i64 ml)/\Cls w':=fun z hz=>by
    refine (Civ.monthLen_any d.y d.m z).mono ?_
    rintro e w' ⟨rfl,hb⟩
    exact ⟨by rw [hml],by rw [hCls];exact (hC z hz).trans (hb.mono (hC z hz).size)⟩
   have HC:=hid hC;have HSt:=hid hstart;have HMl:=hid hn;have HmN:=hid hmN;obtain ⟨ml0,ml1⟩:=hmb;clear hC hstart hCls hn hml hmN
   go_wp2_with fail
   refine Qt.wp_region_cls Cls (by kernel_rfl) (by kernel_rfl) HSt.out ?_
   repeat (go_big_quiet_step ((go_at_call 43;exact Qt.quiet_cls (HMl.out _ (Qt.In.h _)))))
   refine wpQuiet_nil ?_
   rintro wq ⟨⟨w9,hq⟩,e9⟩
   have hbq:=HC.out wq (by rw [e9];exact hq)
   have HQ3:=hid (HQ2.out.bel hbq);have HO3:=hid (own_kp HO2.out (Kp.below (P:=fun _=>False) hbq) (fun _ h=>h.elim));clear hq e9 gE HC HSt HMl HQ2 HO2 hbq;clear inst
   by_cases hday:ml<d.d
   ·have hd5:decide (ml<(d.d:Int))=true:=decide_eq_true hday
    have hR:=HR.out
    rw [rest_day Hno.out hk2 (by rw [HmN.out];omega)] at hR
    have HR2:=hid hR;clear HR hR
    go_wp2_with fail
    exact parse_fail HR2.out.symm HQ3.out.bX HQ3.out.bE HQ3.out.hb rfl rfl
   have hd5:decide (ml<(d.d:Int))=false:=decide_eq_false hday;have hR:=HR.out
   rw [rest_cal Hno.out hk2 (by rw [HmN.out];omega)] at hR
   have HR2:=hid hR;have hcnt:=notes_cnt Hno.out;simp only [List.length_nil,tx_len] at hcnt
   have hol:out.length<=2097152:=by have:=HQ3.out.le;omega
   have HCal:=hid (calendar_any out A c9 wq (Reads.of_own HO3.out) hol (fun n hn=>⟨notes_vals Hno.out (fun n hn=>by cases hn) n hn,by have:=hcnt.2 (fun n hn=>by cases hn) n hn;omega⟩))
   clear HR hR HO3 HmN ml0 ml1 hcnt;obtain ⟨ca,hca⟩:∃ x,calA out=x:=⟨_,rfl⟩;rw [hca] at HR2 HCal;clear hca
   go_wp2_with fail
   go_at_call 44
   refine HCal.out.mono ?_
   rintro e wr ⟨rfl,hb⟩;have h4:=HQ3.out.bel hb;have HQ4:=hid h4;have cB:=h4.bX.cell;have fB:=h4.bX.frozen;have cE:=h4.bE.cell;have fE:=h4.bE.frozen;clear h4 HCal HQ3 hb
   by_cases hc0:ca=0
   ·subst hc0
    have hR:=HR2.out;rw [if_pos rfl] at hR;have HR:=hid hR;clear hR HR2;go_wp2
    exact parse_ok (by rw [<-HR.out];rfl) HQ4.out.bX HQ4.out.bE HQ4.out.hb rfl rfl
   ·have hne:((ca:Int) != 0)=true:=by rw [bne_iff_ne];omega
    have hR:=HR2.out;rw [if_neg hc0] at hR;have HR:=hid hR;clear hR HR2
    go_wp2_with fail
    exact parse_fail HR.out.symm HQ4.out.bX HQ4.out.bE HQ4.out.hb rfl rfl
 ·have h3:=H2.out.step hr hk hg
  have hR:=HR.out;rw [parse_rest_no Hd.out ho] at hR;clear HR Hd HO H2 hr hg ho;have HR:=hid hR;have HP:=hid h3;clear hR h3;generalize w3=WN at*
  have HN:=hid (notes_any (w.heap.size+1+1) w.heap.size s k WN _ _ _ _ _ _ _ _ _ _ m ⟨HP.out.rd,HP.out.le,Kp.refl _ _,HP.out.bX,cell_later HP.out.hb HM.out⟩ hs (by omega) (by omega) (by omega))
  go_wp2_with fail
  go_at_call 42
  refine HN.out.mono ?_
  rintro e wa hr;unfold NP at hr
  split at hr
  rotate_left
  ·next hno=>
   obtain ⟨rfl,hg,z,hz⟩:=hr
   exact parse_fail (by rw [<-HR.out,rest_no hno]) hz (hg.blk HP.out.bE (by show ¬ (w.heap.size+1=_\/w.heap.size+1=_);omega)) (HP.out.hb.trans (hg.bel HP.out.hb.size (fun b e=>by omega))) rfl rfl
  next zone out k2 hno=>
  obtain ⟨A,c9,rfl,hown,hst⟩:=hr;have hq:=HP.out.two hst.rd hst.le hst.pb hst.kp;have HQ:=hid hq;have HO:=hid hown;have Hno:=hid hno;have HWl:=hid (whole_any (w.heap.size+1+1) s k2 wa hst.rd);clear HN HP hown hst hq hno
  go_wp2_with fail
  go_at_call 19
  refine HWl.out.mono ?_
  rintro e wb ⟨he,q,rfl⟩;have hq:=HQ.out.bel (below_drwN (Below.refl _ wa) q);have HO2:=hid (own_kp HO.out (Kp.drewN (P:=fun _=>False) wa q) (fun _ h=>h.elim));have HQ2:=hid hq;clear hq HO HQ HWl;generalize wa.drewN q=WB at*
  by_cases hk2:k2<s.size
  ·rw [if_pos hk2] at he
   subst he
   exact parse_fail (by rw [<-HR.out,rest_short Hno.out hk2]) HQ2.out.bX HQ2.out.bE HQ2.out.hb rfl rfl
  rw [if_neg hk2] at he;subst he;have hmb:=Civ.mlen_bd d.y d.m;obtain ⟨ml,hml⟩:∃ x,Civ.mlen d.y d.m=x:=⟨_,rfl⟩;rw [hml] at hmb
  have hmN:mlN d.y d.m=ml.toNat:=by rw [mlN,hml]
  obtain ⟨Cls,hCls⟩:∃ C:World->Prop,C=fun z=>Below WB.heap.size WB z:=⟨_,rfl⟩
  have hC:∀ z,Cls z->Below WB.heap.size WB z:=fun z h=>by rw [hCls] at h;exact h
  have hstart:Cls WB.drew:=by rw [hCls];exact (Below.refl _ _).drew
  have inst:Nonempty (Qt.In Cls):=⟨⟨_,hstart⟩⟩;have gE:=fun (z:Qt.In Cls) (i:Nat)=>(HQ2.out.bel (hC z.w z.h)).bX.cell i
  have hn:∀ z,Cls z->Calls prog 43 #[.int .i64 d.y,.int .i64 d.m] z fun e w'=>e= .returned (.int .i64 ml)/\Cls w':=fun z hz=>by
   refine (Civ.monthLen_any d.y d.m z).mono ?_
   rintro e w' ⟨rfl,hb⟩
   exact ⟨by rw [hml],by rw [hCls];exact (hC z hz).trans (hb.mono (hC z hz).size)⟩
  have HC:=hid hC;have HSt:=hid hstart;have HMl:=hid hn;have HmN:=hid hmN;obtain ⟨ml0,ml1⟩:=hmb;clear hC hstart hCls hn hml hmN
  go_wp2_with fail
  refine Qt.wp_region_cls Cls (by kernel_rfl) (by kernel_rfl) HSt.out ?_
  repeat (go_big_quiet_step ((go_at_call 43;exact Qt.quiet_cls (HMl.out _ (Qt.In.h _)))))
  refine wpQuiet_nil ?_
  rintro wq ⟨⟨w9,hq⟩,e9⟩
  have hbq:=HC.out wq (by rw [e9];exact hq)
  have HQ3:=hid (HQ2.out.bel hbq);have HO3:=hid (own_kp HO2.out (Kp.below (P:=fun _=>False) hbq) (fun _ h=>h.elim));clear hq e9 gE HC HSt HMl HQ2 HO2 hbq;clear inst
  by_cases hday:ml<d.d
  ·have hd5:decide (ml<(d.d:Int))=true:=decide_eq_true hday
   have hR:=HR.out
   rw [rest_day Hno.out hk2 (by rw [HmN.out];omega)] at hR
   have HR2:=hid hR;clear HR hR
   go_wp2_with fail
   exact parse_fail HR2.out.symm HQ3.out.bX HQ3.out.bE HQ3.out.hb rfl rfl
  have hd5:decide (ml<(d.d:Int))=false:=decide_eq_false hday;have hR:=HR.out
  rw [rest_cal Hno.out hk2 (by rw [HmN.out];omega)] at hR
  have HR2:=hid hR;have hcnt:=notes_cnt Hno.out;simp only [List.length_nil,tx_len] at hcnt
  have hol:out.length<=2097152:=by have:=HQ3.out.le;omega
  have HCal:=hid (calendar_any out A c9 wq (Reads.of_own HO3.out) hol (fun n hn=>⟨notes_vals Hno.out (fun n hn=>by cases hn) n hn,by have:=hcnt.2 (fun n hn=>by cases hn) n hn;omega⟩))
  clear HR hR HO3 HmN ml0 ml1 hcnt;obtain ⟨ca,hca⟩:∃ x,calA out=x:=⟨_,rfl⟩;rw [hca] at HR2 HCal;clear hca
  go_wp2_with fail
  go_at_call 44
  refine HCal.out.mono ?_
  rintro e wr ⟨rfl,hb⟩;have h4:=HQ3.out.bel hb;have HQ4:=hid h4;have cB:=h4.bX.cell;have fB:=h4.bX.frozen;have cE:=h4.bE.cell;have fE:=h4.bE.frozen;clear h4 HCal HQ3 hb
  by_cases hc0:ca=0
  ·subst hc0
   have hR:=HR2.out;rw [if_pos rfl] at hR;have HR:=hid hR;clear hR HR2;go_wp2
   exact parse_ok (by rw [<-HR.out];rfl) HQ4.out.bX HQ4.out.bE HQ4.out.hb rfl rfl
  ·have hne:((ca:Int) != 0)=true:=by rw [bne_iff_ne];omega
   have hR:=HR2.out;rw [if_neg hc0] at hR;have HR:=hid hR;clear hR HR2
   go_wp2_with fail
   exact parse_fail HR.out.symm HQ4.out.bX HQ4.out.bE HQ4.out.hb rfl rfl
end Gr
end
end Go.Proofs.YtiiekaehbahenaaGreatDoor
