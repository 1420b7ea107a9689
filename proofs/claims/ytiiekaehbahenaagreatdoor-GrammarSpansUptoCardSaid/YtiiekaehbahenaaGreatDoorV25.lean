/-
  Contracts of the code that the law reaches, and plain laws. Conditions: as each says.
-/
import Derived.Test.YtiiekaehbahenaaGreatDoorV24
import Derived.Test.YtiiekaehbahenaaGreatDoorV12
set_option linter.all false
set_option maxHeartbeats 40000000
set_option maxRecDepth 100000
namespace Go.Proofs.YtiiekaehbahenaaGreatDoor
open Lib (hid)
open Tryz
section
namespace Gr
open Go.RowKit Mem Atl Wid
abbrev zdC:Array Value:=#[.int .i64 0,.int .i64 0,.int .i64 0,.int .i64 0,.int .i64 0,.int .i64 0,.int .i64 0,.int .i64 0]
theorem set8 {W:World} {b:Nat} {T:TypeId} {a0 a1 a2 a3 a4 a5 a6 a7:Value} (x0 x1 x2 x3 x4 x5 x6 x7:Value) (h:Blk W b T #[a0,a1,a2,a3,a4,a5,a6,a7]):
  Blk ((((((((W.setCell ⟨b,0,none⟩ x0).setCell ⟨b,1,none⟩ x1).setCell ⟨b,2,none⟩ x2).setCell ⟨b,3,none⟩ x3).setCell ⟨b,4,none⟩ x4).setCell ⟨b,5,none⟩ x5).setCell ⟨b,6,none⟩ x6).setCell ⟨b,7,none⟩ x7) b T #[x0,x1,x2,x3,x4,x5,x6,x7]:=by
 simpa using (((((((h.set_ 0 x0).set_ 1 x1).set_ 2 x2).set_ 3 x3).set_ 4 x4).set_ 5 x5).set_ 6 x6).set_ 7 x7
theorem far8 {W:World} {b g:Nat} {T:TypeId} {cs:Array Value} {x0 x1 x2 x3 x4 x5 x6 x7:Value} (h:Blk W g T cs) (hne:g≠b):Blk ((((((((W.setCell ⟨b,0,none⟩ x0).setCell ⟨b,1,none⟩ x1).setCell ⟨b,2,none⟩ x2).setCell ⟨b,3,none⟩ x3).setCell ⟨b,4,none⟩ x4).setCell ⟨b,5,none⟩ x5).setCell ⟨b,6,none⟩ x6).setCell ⟨b,7,none⟩ x7) g T cs:=by
 iterate 8 refine Blk.far ?_ hne _
 exact h
theorem bel8 {B:Nat} {w W:World} {b:Nat} {x0 x1 x2 x3 x4 x5 x6 x7:Value} (h:Below B w W) (hB:B<=b):Below B w ((((((((W.setCell ⟨b,0,none⟩ x0).setCell ⟨b,1,none⟩ x1).setCell ⟨b,2,none⟩ x2).setCell ⟨b,3,none⟩ x3).setCell ⟨b,4,none⟩ x4).setCell ⟨b,5,none⟩ x5).setCell ⟨b,6,none⟩ x6).setCell ⟨b,7,none⟩ x7):=by
 iterate 8 refine Below.setCell ?_ hB _
 exact h
theorem clear_span (X:Nat) (w:World) (f:Nat->Int) (h:Blk w X 32 (durF f)):
  Calls prog 22 #[.pointer (some ⟨X,0,none⟩)] w fun e w'=>e= .returned (.tuple #[])/\Blk w' X 32 zdC/\Kp (·=X) w w':=by
 go_enter func22,ntmps22;have cB:=h.cell;have fB:=h.frozen;have H:=hid h;clear h;go_wp2
 go_end0
 refine ⟨rfl,set8 _ _ _ _ _ _ _ _ H.out,?_⟩
 iterate 8 refine kpset (P:=(·=X)) rfl ?_ _ _
 exact Kp.refl _ _
theorem span_results {w:World} {X E:Nat} {a0 a1 a2 a3 a4 a5 a6 a7:Value} {n:Int} (h:Blk w X 32 #[a0,a1,a2,a3,a4,a5,a6,a7]) (h':Blk w E 24 #[.int .i64 n]) (tmps:Array Value) (h2:tmps[2]?=some (.pointer (some ⟨X,0,none⟩))) (h3:tmps[3]?=some (.pointer (some ⟨E,0,none⟩))):
  (results Tryz.f11 tmps).run prog w= .ok (.tuple #[.agg #[a0,a1,a2,a3,a4,a5,a6,a7],.int .i64 n]) w:=by
 have hc:=h.cell;have hc':=h'.cell;simp [results,Tryz.results11,go_sem,hc,hc',h2,h3]
abbrev spanPost (w:World) (l:Txt):Ending->World->Prop:=fun e w'=>e= .returned (spanV l)/\Below w.heap.size w w'
theorem span_fail {w W:World} {n:Nat} {ce:Value} {f:Nat->Int} {l:Txt} (hr:spanB l=(z8,n)) (bX:Blk W w.heap.size 32 (durF f)) (bE:Blk W (w.heap.size+1) 24 #[ce]) (hb:Below w.heap.size w W)
  {tmps:Array Value} (h2:tmps[2]?=some (.pointer (some ⟨w.heap.size,0,none⟩))) (h3:tmps[3]?=some (.pointer (some ⟨w.heap.size+1,0,none⟩))):
  bodyPostD prog Tryz.f11 (spanPost w l) (Exit.panic [{ v:= .iface 24 (.int .i64 n),recovered:=false }])
   { tmps:=tmps,defers:=[{ target:=Target.fn (Fn.func 15) #[],args:=#[.pointer (some ⟨w.heap.size+1,0,none⟩),.func (.func 22) #[] #[.pointer (some ⟨w.heap.size,0,none⟩)]] }] } W:=by
 refine leaves_cons (f:=15) (args:=#[.pointer (some ⟨w.heap.size+1,0,none⟩),.func (.func 22) #[] #[.pointer (some ⟨w.heap.size,0,none⟩)]]) (by simp) (by simp [go_sem]) ?_
 refine (catch_span (w.heap.size+1) _ n [] W _ bE _ (clear_span w.heap.size _ _ (bX.far (p:=⟨w.heap.size+1,0,none⟩) (by show w.heap.size≠w.heap.size+1;omega) _))).mono ?_
 rintro e u' w'' ⟨rfl,rfl,bX2,kp2⟩
 have bE2:=kp2.blk (bE.set_ 0 (.int .i64 n)) (by show w.heap.size+1≠w.heap.size;omega)
 exact ⟨_,span_results bX2 bE2 _ h2 h3,by rw [spanV,hr];rfl,(hb.setCell (by simp) _).trans (kp2.bel (by have:=hb.size;simp;omega) (fun k hk=>by omega))⟩
theorem span_end {w W:World} {b0 b1 b2 b3 b4 b5 b6 b7 a0 a1 a2 a3 a4 a5 a6 a7:Value} {l:Txt} (hr:(.agg (durF (flF (spanB l).1)):Value)= .agg #[a0,a1,a2,a3,a4,a5,a6,a7]/\(spanB l).2=0) (bX:Blk W w.heap.size 32 #[b0,b1,b2,b3,b4,b5,b6,b7]) (bE:Blk W (w.heap.size+1) 24 #[.int .i64 0]) (hb:Below w.heap.size w W)
  {tmps:Array Value} (h2:tmps[2]?=some (.pointer (some ⟨w.heap.size,0,none⟩))) (h3:tmps[3]?=some (.pointer (some ⟨w.heap.size+1,0,none⟩))):
  bodyPostD prog Tryz.f11 (spanPost w l) Exit.ret
   { tmps:=tmps,defers:=[{ target:=Target.fn (Fn.func 15) #[],args:=#[.pointer (some ⟨w.heap.size+1,0,none⟩),.func (.func 22) #[] #[.pointer (some ⟨w.heap.size,0,none⟩)]] }] }
   (((((((((W.setCell ⟨w.heap.size,0,none⟩ a0).setCell ⟨w.heap.size,1,none⟩ a1).setCell ⟨w.heap.size,2,none⟩ a2).setCell ⟨w.heap.size,3,none⟩ a3).setCell ⟨w.heap.size,4,none⟩ a4).setCell ⟨w.heap.size,5,none⟩ a5).setCell ⟨w.heap.size,6,none⟩ a6).setCell ⟨w.heap.size,7,none⟩ a7).setCell ⟨w.heap.size+1,0,none⟩ (.int .i64 0)):=by
 have bF:=(set8 a0 a1 a2 a3 a4 a5 a6 a7 bX).far (p:=⟨w.heap.size+1,0,none⟩) (by show w.heap.size≠w.heap.size+1;omega) (.int .i64 0)
 have hne:w.heap.size+1≠w.heap.size:=by omega
 have eF0:=((((((((bE.far (p:=⟨w.heap.size,0,none⟩) hne a0).far (p:=⟨w.heap.size,1,none⟩) hne a1).far (p:=⟨w.heap.size,2,none⟩) hne a2).far (p:=⟨w.heap.size,3,none⟩) hne a3).far (p:=⟨w.heap.size,4,none⟩) hne a4).far (p:=⟨w.heap.size,5,none⟩) hne a5).far (p:=⟨w.heap.size,6,none⟩) hne a6).far (p:=⟨w.heap.size,7,none⟩) hne a7);have eF:=eF0.set_ 0 (.int .i64 0);simp only [List.setIfInBounds_toArray,List.set_cons_zero] at eF;clear eF0;have hl:=Nat.le_refl w.heap.size
 have hF:=((((((((hb.setCell (p:=⟨w.heap.size,0,none⟩) hl a0).setCell (p:=⟨w.heap.size,1,none⟩) hl a1).setCell (p:=⟨w.heap.size,2,none⟩) hl a2).setCell (p:=⟨w.heap.size,3,none⟩) hl a3).setCell (p:=⟨w.heap.size,4,none⟩) hl a4).setCell (p:=⟨w.heap.size,5,none⟩) hl a5).setCell (p:=⟨w.heap.size,6,none⟩) hl a6).setCell (p:=⟨w.heap.size,7,none⟩) hl a7).setCell (p:=⟨w.heap.size+1,0,none⟩) (by show w.heap.size<=w.heap.size+1;omega) (.int .i64 0)
 clear bX bE hb;generalize World.setCell _ ⟨w.heap.size+1,0,none⟩ _=WF at*
 refine leaves_cons (f:=15) (args:=#[.pointer (some ⟨w.heap.size+1,0,none⟩),.func (.func 22) #[] #[.pointer (some ⟨w.heap.size,0,none⟩)]]) (by simp) (by simp [go_sem]) ?_
 refine (catch_idle (w.heap.size+1) 22 _ _).mono ?_
 rintro e u' w'' ⟨rfl,rfl,rfl⟩
 exact ⟨_,span_results bF eF _ h2 h3,by rw [spanV,hr.1,hr.2];rfl,hF⟩
structure SS (w:World) (s:ByteArray) (f:List Int) (k:Nat) (W:World):Prop where
 rd:Rd W (w.heap.size+1+1) s k
 le:k<=s.size
 bX:Blk W w.heap.size 32 (durF (flF f))
 bE:Blk W (w.heap.size+1) 24 #[.int .i64 0]
 bA:Blk W (w.heap.size+1+1+1) 49 #[.pointer (some ⟨w.heap.size+1+1,0,none⟩)]
 hb:Below w.heap.size w W
section
variable {w W Y:World} {s:ByteArray} {f:List Int} {k j:Nat}
theorem SS.step (h:SS w s f k W) (hr:Rd Y (w.heap.size+1+1) s j) (hj:j<=s.size) (hk:Kp (·=w.heap.size+1+1) W Y):SS w s f j Y:=
 ⟨hr,hj,hk.blk h.bX (by show w.heap.size≠_;omega),hk.blk h.bE (by show w.heap.size+1≠_;omega),hk.blk h.bA (by show w.heap.size+1+1+1≠_;omega),h.hb.trans (hk.bel h.hb.size (fun b e=>by omega))⟩
theorem SS.bel (h:SS w s f k W) (hb:Below W.heap.size W Y):SS w s f k Y:=
 ⟨Blk.below h.rd hb h.rd.lt,h.le,h.bX.below hb h.bX.lt,h.bE.below hb h.bE.lt,h.bA.below hb h.bA.lt,h.hb.trans (hb.mono h.hb.size)⟩
theorem SS.fail (h:SS w s f k W) {l:Txt} {n:Nat} (hr:spanB l=(z8,n)) {tmps:Array Value} (h2:tmps[2]?=some (.pointer (some ⟨w.heap.size,0,none⟩))) (h3:tmps[3]?=some (.pointer (some ⟨w.heap.size+1,0,none⟩))):
  bodyPostD prog Tryz.f11 (spanPost w l) (Exit.panic [{ v:= .iface 24 (.int .i64 n),recovered:=false }])
   { tmps:=tmps,defers:=[{ target:=Target.fn (Fn.func 15) #[],args:=#[.pointer (some ⟨w.heap.size+1,0,none⟩),.func (.func 22) #[] #[.pointer (some ⟨w.heap.size,0,none⟩)]] }] } W:=
 span_fail hr h.bX h.bE h.hb h2 h3
end
theorem box4 (w:World) (t1 t2 t3 t4:TypeId) (a b c d:Array Value):Blk ((((w.alloc (.cells a t1)).alloc (.cells b t2)).alloc (.cells c t3)).alloc (.cells d t4)) w.heap.size t1 a/\Blk ((((w.alloc (.cells a t1)).alloc (.cells b t2)).alloc (.cells c t3)).alloc (.cells d t4)) (w.heap.size+1) t2 b/\
  Blk ((((w.alloc (.cells a t1)).alloc (.cells b t2)).alloc (.cells c t3)).alloc (.cells d t4)) (w.heap.size+1+1) t3 c/\Blk ((((w.alloc (.cells a t1)).alloc (.cells b t2)).alloc (.cells c t3)).alloc (.cells d t4)) (w.heap.size+1+1+1) t4 d/\Below w.heap.size w ((((w.alloc (.cells a t1)).alloc (.cells b t2)).alloc (.cells c t3)).alloc (.cells d t4)):=by
 obtain ⟨h1,h2,h3,h4,h5⟩:=box3 w t1 t2 t3 a b c;have n:=Blk.new (((w.alloc (.cells a t1)).alloc (.cells b t2)).alloc (.cells c t3)) t4 d
 refine ⟨h1.alloc _,h2.alloc _,h3.alloc _,?_,h4.alloc h4.size _⟩
 simpa using n
theorem SS.dur {w W Y:World} {s:ByteArray} {f g:List Int} {k:Nat} (h:SS w s f k W) (hX:Blk Y w.heap.size 32 (durF (flF g))) (hk:Kp (·=w.heap.size) W Y):SS w s g k Y:=
 ⟨hk.blk h.rd (by show w.heap.size+1+1≠_;omega),h.le,hX,hk.blk h.bE (by show w.heap.size+1≠_;omega),hk.blk h.bA (by show w.heap.size+1+1+1≠_;omega),h.hb.trans (hk.bel h.hb.size (fun b e=>by omega))⟩
abbrev ptr4 (X:Nat):Array Value:=#[.pointer (some ⟨X,0,none⟩),.pointer (some ⟨X,1,none⟩),.pointer (some ⟨X,2,none⟩),.pointer (some ⟨X,3,none⟩)]
abbrev ptr3 (X:Nat):Array Value:=#[.pointer (some ⟨X,4,none⟩),.pointer (some ⟨X,5,none⟩),.pointer (some ⟨X,6,none⟩)]
theorem ptr4_at {X:Nat} (j:Nat) (h:j<4):(ptr4 X)[j]?=some (.pointer (some ⟨X,0+j,none⟩)):=by
 have:j=0\/j=1\/j=2\/j=3:=by omega
 rcases this with rfl|rfl|rfl|rfl<;>rfl
theorem ptr3_at {X:Nat} (j:Nat) (h:j<3):(ptr3 X)[j]?=some (.pointer (some ⟨X,4+j,none⟩)):=by
 have:j=0\/j=1\/j=2:=by omega
 rcases this with rfl|rfl|rfl<;>rfl
section
variable {w W Y:World} {s:ByteArray} {f g:List Int} {k j TK RM PF:Nat} {room:Bool} {cs:Array Value}
theorem us_mk (h:SS w s f k W) (bT:Blk W TK 56 (takeC (w.heap.size+1+1))) (bR:Blk W RM 4 #[.bool room]) (hTK:w.heap.size+1+1+1<TK) (hRM:RM=TK+1) (hPF:PF=W.heap.size) (cs:Array Value):
  US (W.alloc (.cells cs 62)) w.heap.size (w.heap.size+1+1) (w.heap.size+1+1+1) TK RM PF s cs f room k (W.alloc (.cells cs 62))/\DS w.heap.size (w.heap.size+1+1) (w.heap.size+1+1+1) TK RM PF/\SS w s f k (W.alloc (.cells cs 62)):=by
 subst hPF;have l1:=bR.lt;have l2:=h.bX.lt;have hb:=(Below.refl W.heap.size W).alloc (Nat.le_refl _) (.cells cs 62);have h2:=h.bel hb
 refine ⟨⟨h2.rd,h2.le,h2.bX,h2.bA,bT.alloc _,bR.alloc _,Blk.new _ _ _,Kp.refl _ _⟩,?_,h2⟩
 constructor<;>omega
theorem US.back {B:World} {ps:Array Value} (h:US B w.heap.size (w.heap.size+1+1) (w.heap.size+1+1+1) TK RM PF s ps f room k W) (hS:SS w s g j B) (hRM:w.heap.size+1+1+1<RM):SS w s f k W:=
 ⟨h.rd,h.le,h.bX,h.kp.blk hS.bE (by omega),h.bA,hS.hb.trans (h.kp.bel hS.hb.size (fun b e=>by omega))⟩
theorem SS.bad {B:World} {fx:Nat->Int} (hX:Blk W w.heap.size 32 (durF fx)) (hk:Kp (fun b=>b=w.heap.size+1+1\/b=w.heap.size\/b=RM) B W) (hS:SS w s g j B) (hRM:w.heap.size+1+1+1<RM) {l:Txt} {n:Nat} (hr:spanB l=(z8,n)) {tmps:Array Value} (h2:tmps[2]?=some (.pointer (some ⟨w.heap.size,0,none⟩))) (h3:tmps[3]?=some (.pointer (some ⟨w.heap.size+1,0,none⟩))):
  bodyPostD prog Tryz.f11 (spanPost w l) (Exit.panic [{ v:= .iface 24 (.int .i64 n),recovered:=false }])
   { tmps:=tmps,defers:=[{ target:=Target.fn (Fn.func 15) #[],args:=#[.pointer (some ⟨w.heap.size+1,0,none⟩),.func (.func 22) #[] #[.pointer (some ⟨w.heap.size,0,none⟩)]] }] } W:=
 span_fail hr hX (hk.blk hS.bE (by omega)) (hS.hb.trans (hk.bel hS.hb.size (fun b e=>by omega))) h2 h3
end
theorem pm_no {l:Txt} {k:Nat} (h:oneA l [43,45] k=false):oneA l [45] k=false:=by
 rw [oneA] at h ⊢
 cases hl:l[k]? with
 |none=>rfl
 |some c=>
  rw [hl] at h;simp only [List.contains_cons,List.contains_nil,Bool.or_false,Bool.or_eq_false_iff] at h ⊢;exact h.2
theorem pm_lisp:(⟨#[43,45]⟩:ByteArray).data.toList=[43,45]:=rfl
theorem pp_list:(⟨#[80,112]⟩:ByteArray).data.toList=[80,112]:=rfl
theorem tt_list':(⟨#[84,116]⟩:ByteArray).data.toList=[84,116]:=rfl
theorem span_text (s:ByteArray) (w:World) (hs:s.size<=2097152):
  Calls prog 11 #[.string s] w (spanPost w (tx s)):=by
 have hmf:∀ (fn:Fn) (first cap:Array Value) (w:World),(Instr.makeFunc fn first cap).run prog w= .ok (.func fn first cap) w:=fun _ _ _ _=>rfl
 have hsf:∀ (a:Addr) (fn:Fn) (x y:Array Value) (m:Mode) (W:World),(store a (.func fn x y) m).run prog W=stored prog W a (.func fn x y) m:=fun a fn x y m W=>run_store _ W a _ m rfl;have hb:=box4 w 32 24 51 49 zdC #[.int .i64 0] #[.string s,.int .i64 0] #[.pointer (some ⟨w.heap.size+1+1,0,none⟩)];have h0:SS w s z8 0 _:=⟨hb.2.2.1,Nat.zero_le _,hb.1,hb.2.1,hb.2.2.2.1,hb.2.2.2.2⟩;have cA:=h0.bA.cell;have HS:=hid h0;clear h0 hb;obtain ⟨S,hS⟩:∃ S,spanA (tx s)=S:=⟨_,rfl⟩
 have HSb:=hid (show spanB (tx s)=spanO (oneA (tx s) [45] 0) S from by rw [<-hS];rfl)
 have Hok:=hid (fun x (h:S=some x)=>span_ok (hS.trans h));unfold spanA at hS;have HR:=hid hS;clear hS
 go_enter_defers func11,ntmps11
 go_wp2_with fail
 generalize (((w.alloc (.cells #[.int .i64 0,.int .i64 0,.int .i64 0,.int .i64 0,.int .i64 0,.int .i64 0,.int .i64 0,.int .i64 0] 32)).alloc (.cells #[.int .i64 0] 24)).alloc (.cells #[.string s,.int .i64 0] 51)).alloc (.cells #[.pointer (some ⟨w.heap.size+1+1,0,none⟩)] 49)=W at*
 have HO:=hid (one_any ⟨#[43,45]⟩ (by decide) (w.heap.size+1+1) s 0 W HS.out.rd (Nat.zero_le _) hs)
 rw [pm_lisp] at HO
 go_at_call 17
 refine HO.out.mono ?_
 rintro e w1 ⟨hcase,hg⟩
 obtain ⟨i0,hi0⟩:∃ i,(if oneA (tx s) [43,45] 0=true then 1 else 0)=i:=⟨_,rfl⟩
 have hst:∃ c:Nat,e= .returned (.int .u8 c)/\((c:Int) == 45)=oneA (tx s) [45] 0/\Rd w1 (w.heap.size+1+1) s i0/\i0<=s.size:=by
  rw [<-hi0]
  rcases hcase with ⟨h1,c,hc,_,he,hr,hk⟩|⟨h1,he,hr⟩
  ·rw [h1];exact ⟨c,he,by rw [dash_eq,hc],hr,hk⟩
  ·rw [h1];exact ⟨0,he,by rw [pm_no h1];rfl,hr,Nat.zero_le _⟩
 obtain ⟨c,rfl,hc45,hr1,hk1⟩:=hst;obtain ⟨neg,hneg⟩:∃ b,oneA (tx s) [45] 0=b:=⟨_,rfl⟩;rw [hneg] at hc45 HSb;rw [hi0] at HR;have h1:=HS.out.step hr1 hk1 hg;have H1:=hid h1;clear cA HO hcase hg hr1 hi0 hneg HS;have cA:=h1.bA.cell;clear h1
 have HO:=hid (one_any ⟨#[80,112]⟩ (by decide) (w.heap.size+1+1) s i0 w1 H1.out.rd hk1 hs)
 rw [pp_list] at HO
 go_wp2_with fail
 go_at_call 17
 refine HO.out.mono ?_
 rintro e w2 ⟨⟨ho,c2,hc2,hc0,rfl,hr,hk2⟩|⟨ho,rfl,hr⟩,hg⟩
 rotate_left
 ·have h2:=H1.out.step hr hk1 hg
  have H2:=hid h2;have hR:=HR.out;rw [ho] at hR;simp only [Bool.false_eq_true,if_false] at hR;subst hR;clear cA HO hr hg ho H1;have cA:=h2.bA.cell;clear h2
  go_wp2_with (go_at_call 23;refine (wrong_any (w.heap.size+1+1) _).mono ?_;rintro e w3 ⟨rfl,rfl⟩)
  exact H2.out.fail HSb.out rfl rfl
 have h2:=H1.out.step hr hk2 hg;have H2:=hid h2;have hR:=HR.out;rw [if_pos ho] at hR;have HR2:=hid hR
 have hcz:((c2:Int) == 0)=false:=by rw [beq_eq_false_iff_ne];omega
 clear cA HO hr hg ho H1 hR HR hc2;have cA:=h2.bA.cell;have lA:=h2.bA.lt;clear h2
 go_wp2_with fail
 obtain ⟨b6,b7,hb67,hz67⟩:=box2 w2 56 4 (takeC (w.heap.size+1+1)) #[.bool true]
 obtain ⟨u3,d3,s3⟩:=us_mk (H2.out.bel hb67) b6 b7 lA rfl (PF:=w2.heap.size+1+1) (by simp) (ptr4 w.heap.size)
 have hU:=units_any ⟨#[89,77,87,68]⟩ [121,109,119,100] 4 0 false let_ymwd rfl (by decide) _ _ _ _ _ _ _ s (ptr4 w.heap.size) z8 true (i0+1) u3 d3 rfl ptr4_at hs
 have H3:=hid (And.intro d3 s3);have hT3:=u3.bT;have HT3:=hid hT3;clear u3 d3 s3 b6 b7 hb67 hz67 cA H2 hT3;simp only [ptr4,takeC] at hU H3 HT3;obtain ⟨TK,hTK⟩:∃ t,w2.heap.size=t:=⟨_,rfl⟩;generalize World.alloc (World.alloc (World.alloc _ _) _) _=W3 at*;rw [hTK] at hU H3 HT3 lA;rw [hTK];clear hTK
 go_at_call 25
 refine hU.mono ?_
 rintro e w4 hr;have hR:=HR2.out;clear HR2 hU hcz hc0 hc45
 rcases hu:unitA (tx s) [89,77,87,68] 0 false 8 ⟨-1,-1,true,[0,0,0,0,0,0,0,0]⟩ (i0+1) with _|⟨⟨had,part,room,f⟩,k⟩
 ·rw [hu] at hR
  have hr2:UP W3 w.heap.size (w.heap.size+1+1) (w.heap.size+1+1+1) TK (TK+1) (TK+1+1) s (ptr4 w.heap.size) none e w4:=by rw [<-hu];exact hr
  obtain ⟨rfl,⟨fx,hX⟩,hk⟩:=hr2;have hR:none=S:=hR;subst hR
  exact SS.bad hX hk H3.out.2 (by omega) HSb.out rfl rfl
 have hr2:UP W3 w.heap.size (w.heap.size+1+1) (w.heap.size+1+1+1) TK (TK+1) (TK+1+1) s (ptr4 w.heap.size) (some (⟨had,part,room,f⟩,k)) e w4:=by rw [<-hu];exact hr
 have oy:=unit_ok (n:=4) rfl hu (UOk.mk rfl zero_fit (by decide:(-1:Int)<=-1) (by decide:(-1:Int)<4) (by decide:(-1:Int)<=-1) (by decide:(-1:Int)<1000000000))
 rw [hu] at hR;simp only [Option.bind_some] at hR;obtain ⟨rfl,hfl,hus⟩:=hr2;simp only at hfl hus
 have h4:=hus.back H3.out.2 (by omega)
 have H4:=hid (And.intro h4 (And.intro hus.bT (And.intro hus.bR oy)));have HR:=hid hR;clear hr hu oy hR hus H3 HT3;have cA:=h4.bA.cell;have hk4:=h4.le;clear h4;obtain ⟨bt,hbt⟩:∃ b,oneA (tx s) [84,116] k=b:=⟨_,rfl⟩
 have hOt:∀ z,SS w s f k z->Calls prog 17 #[.pointer (some ⟨w.heap.size+1+1,0,none⟩),.string ⟨#[84,116]⟩] z fun e z'=>∃ c:Nat,e= .returned (.int .u8 c)/\decide ((0:Int)<(c:Int))=bt/\Rd z' (w.heap.size+1+1) s (if bt=true then k+1 else k)/\(if bt=true then k+1 else k)<=s.size/\Kp (·=w.heap.size+1+1) z z':=fun z hz=>by
  have:=one_any ⟨#[84,116]⟩ (by decide) (w.heap.size+1+1) s k z hz.rd hz.le hs
  rw [tt_list',hbt] at this
  refine this.mono ?_
  rintro e z' ⟨⟨rfl,c,hc,hc0,he,hr,hk⟩|⟨rfl,he,hr⟩,hg⟩
  ·exact ⟨c,he,decide_eq_true (by omega),hr,hk,hg⟩
  ·exact ⟨0,he,rfl,hr,hz.le,hg⟩
 have HOt:=hid hOt;rw [hbt] at HR;clear hOt hbt
 go_upto_if 39 with (go_at_call 17;refine (HOt.out _ H4.out.1).mono ?_;rintro e w5 ⟨c5,rfl,hcb,hrd,hle,hg⟩)
 have H5:=hid (And.intro (H4.out.1.step hrd hle hg) (And.intro (hg.blk H4.out.2.1 (by show TK≠_;omega)) (And.intro (hg.blk H4.out.2.2.1 (by show TK+1≠_;omega)) H4.out.2.2.2)))
 clear H4 HOt hrd hle hg cA
 go_cut [9,11] from 39 to 57 (fun s9 _ wx=>∃ (hd:Int) (rm:Bool) (g:List Int) (j:Nat),s9= .int .i64 hd/\SS w s g j wx/\Blk wx (TK+1) 4 #[.bool rm]/\g.length=8/\(∀ v∈g,Fit v)/\endA (tx s) hd rm g j=S)
 case first=>
  cases bt
  ·have hR:=HR.out
   simp only [Bool.false_eq_true,if_false] at hR
   obtain rfl:c5=0:=by have:=of_decide_eq_false hcb;omega
   clear hcb
   go_wp2_with fail
   go_meet;exact ⟨had,room,f,k,rfl,H5.out.1,H5.out.2.2.1,hfl,H5.out.2.2.2.fit,hR⟩
  ·have hR:=HR.out
   have h5:=H5.out.1;simp only [if_true] at hR h5;obtain ⟨u6,d6,s6⟩:=us_mk h5 H5.out.2.1 H5.out.2.2.1 lA rfl rfl (ptr3 w.heap.size)
   have hU:=units_any ⟨#[72,77,83]⟩ [104,109,115] 3 4 true let_hms rfl (by decide) _ _ _ _ _ _ _ s (ptr3 w.heap.size) f room (k+1) u6 d6 hfl ptr3_at hs
   have H6:=hid (And.intro d6 s6)
   have oz:=UOk.mk (n:=3) (x:=⟨-1,-1,room,f⟩) hfl H5.out.2.2.2.fit (by decide:(-1:Int)<=-1) (by decide:(-1:Int)<3) (by decide:(-1:Int)<=-1) (by decide:(-1:Int)<1000000000)
   have Hoz:=hid oz;have HU:=hid hU;have HR2:=hid hR
   have hc5:0<c5:=by have:=of_decide_eq_true hcb;omega
   clear u6 d6 s6 hU hR h5 oz HR hcb
   go_wp2_with fail
   go_at_call 25
   refine HU.out.mono ?_
   rintro e w7 hr;have hR:=HR2.out;clear HR2 HU
   rcases hu:unitA (tx s) [72,77,83] 4 true 8 ⟨-1,-1,room,f⟩ (k+1) with _|⟨⟨had2,part2,room2,f2⟩,k2⟩
   ·rw [hu] at hR
    have hr2:UP (w5.alloc (.cells (ptr3 w.heap.size) 62)) w.heap.size (w.heap.size+1+1) (w.heap.size+1+1+1) TK (TK+1) w5.heap.size s (ptr3 w.heap.size) none e w7:=by rw [<-hu];exact hr
    obtain ⟨rfl,⟨fx,hX⟩,hk⟩:=hr2;have hR:none=S:=hR;subst hR
    exact SS.bad hX hk H6.out.2 (by omega) HSb.out rfl rfl
   have hr2:UP (w5.alloc (.cells (ptr3 w.heap.size) 62)) w.heap.size (w.heap.size+1+1) (w.heap.size+1+1+1) TK (TK+1) w5.heap.size s (ptr3 w.heap.size) (some (⟨had2,part2,room2,f2⟩,k2)) e w7:=by rw [<-hu];exact hr
   have oy:=unit_ok (n:=3) rfl hu Hoz.out;rw [hu] at hR;simp only [Option.bind_some] at hR;obtain ⟨rfl,hfl2,hus⟩:=hr2;simp only at hfl2 hus
   have h7:=hus.back H6.out.2 (by omega)
   have H7:=hid (And.intro h7 (And.intro hus.bR (And.intro oy hfl2)));clear hr hu oy hus H6 H5 Hoz h7
   by_cases hc:0<=had2/\0<part2
   ·rw [if_pos hc] at hR
    have o1:=H7.out.2.2.1.hn;have o2:=H7.out.2.2.1.p9;simp only at o1 o2
    obtain ⟨u,hu⟩:∃ u:Nat,had2=u:=⟨had2.toNat,by omega⟩
    obtain ⟨p,hp⟩:∃ p:Nat,part2=p:=⟨part2.toNat,by omega⟩
    subst hu hp
    have hu2:u<=2:=by omega
    have hp2:p<1000000000:=by omega
    have hp0:0<p:=by omega
    have HO:=hid (over_any w.heap.size f2 u p w7 H7.out.1.bX hfl2 hu2 hp2)
    have Hof:=hid (over_fit (u:=(u:Int)) (p:=(p:Int)) hfl2 H7.out.2.2.1.fit (by omega) (by omega))
    have HR:=hid hR;clear hR hc o1 o2
    go_wp2_with (go_at_call 30;refine HO.out.mono ?_;rintro e w8 ⟨rfl,hX,hg⟩)
    go_meet
    exact ⟨u,room2,overF f2 u p,k2,rfl,H7.out.1.dur hX hg,hg.blk H7.out.2.1 (by show TK+1≠_;omega),Hof.out.1,Hof.out.2,HR.out⟩
   ·rw [if_neg hc] at hR
    have HR:=hid hR
    by_cases hh:0<=had2
    ·have q1:decide (0<=had2)=true:=decide_eq_true hh
     have q2:decide (0<part2)=false:=decide_eq_false (fun e=>hc ⟨hh,e⟩);clear hR hc hh
     go_wp2_with fail
     go_meet;exact ⟨had2,room2,f2,k2,rfl,H7.out.1,H7.out.2.1,H7.out.2.2.2,H7.out.2.2.1.fit,HR.out⟩
    ·have q1:decide (0<=had2)=false:=decide_eq_false hh
     clear hR hc hh
     go_wp2_with fail
     go_meet;exact ⟨had2,room2,f2,k2,rfl,H7.out.1,H7.out.2.1,H7.out.2.2.2,H7.out.2.2.1.fit,HR.out⟩
 case rest=>
  obtain ⟨hd,rm,g,j,rfl,hss,hrm,hgl,hgf,hE⟩:=hcut;clear H5 HR Hok hcb hfl lA;have HS:=hid (And.intro hss (And.intro hrm (And.intro hgl hgf)));have cA:=hss.bA.cell;unfold endA at hE
  by_cases hd0:hd<0
  ·have q1:decide (hd<0)=true:=decide_eq_true hd0
   rw [if_pos hd0] at hE;subst hE;clear hd0 hss hrm hgl hgf
   go_wp2_with (go_at_call 23;refine (wrong_any (w.heap.size+1+1) _).mono ?_;rintro e w3 ⟨rfl,rfl⟩)
   exact HS.out.1.fail HSb.out rfl rfl
  have q1:decide (hd<0)=false:=decide_eq_false hd0;rw [if_neg hd0] at hE;have HW:=hid (fun z (hz:Rd z (w.heap.size+1+1) s j)=>whole_any (w.heap.size+1+1) s j z hz)
  by_cases hj:j<s.size
  ·rw [tx_len,if_pos hj] at hE
   subst hE;clear hd0 hss hrm hgl hgf
   go_wp2_with fail
   go_at_call 19
   refine (HW.out _ HS.out.1.rd).mono ?_
   rintro e w6 ⟨he,q,rfl⟩;rw [if_pos hj] at he;subst he;exact (HS.out.1.bel (below_drwN (Below.refl _ _) q)).fail HSb.out rfl rfl
  rw [tx_len,if_neg hj] at hE;obtain ⟨a,b,c6,d,e6,h6,i6,j6,rfl,hoct⟩:=list_oct hgl hgf;have hro:=right_oct a b c6 d e6 h6 i6 j6;have hRt:=fun z=>right_any a b c6 d e6 h6 i6 j6 hoct z;obtain ⟨rb,hrb⟩:∃ r,rightB (oct a b c6 d e6 h6 i6 j6)=r:=⟨_,rfl⟩;rw [hrb] at hRt hro;have HRt:=hid hRt
  have HSb2:=hid (show spanB (tx s)=if (rm && rb)=true then (if neg=true then [(a:Int),b,c6,d,e6,h6,i6,j6].map (fun v=> -v) else [(a:Int),b,c6,d,e6,h6,i6,j6],0) else (z8,4) from by rw [HSb.out,<-hE,spanO];simp only;rw [hro])
  have Hoct:=hid (And.intro hoct hrb);clear hd0 hss hrm hgl hgf hRt hro hrb hoct hE HSb
  have hWl:∀ z,Rd z (w.heap.size+1+1) s j->Calls prog 19 #[.pointer (some ⟨w.heap.size+1+1,0,none⟩)] z fun e z'=>e= .returned (.tuple #[])/\∃ n,z'=z.drewN n:=fun z hz=>by
   have:=HW.out z hz;simp only [if_neg hj] at this;exact this
  have HWl:=hid hWl;clear hWl HW
  cases rm
  ·have HSb3:=HSb2.out
   simp only [Bool.false_and,Bool.false_eq_true,if_false] at HSb3
   go_wp2_with (go_at_call 19;refine (HWl.out _ HS.out.1.rd).mono ?_;rintro e w6 ⟨rfl,q,rfl⟩;have h7:=HS.out.1.bel (below_drwN (Below.refl _ _) q);have b7:=HS.out.2.1.drewN q;have c7:=b7.cell;have H7:=hid h7;clear h7 b7 HS cA;generalize World.drewN _ q=W7 at *)
   exact H7.out.fail HSb3 rfl rfl
  ·cases rb
   ·have HSb3:=HSb2.out
    simp only [Bool.and_false,Bool.false_eq_true,if_false] at HSb3
    go_wp2_with (first
     |(go_at_call 19;refine (HWl.out _ HS.out.1.rd).mono ?_;rintro e w6 ⟨rfl,q,rfl⟩;have h7:=HS.out.1.bel (below_drwN (Below.refl _ _) q);have b7:=HS.out.2.1.drewN q;have c7:=b7.cell;have cX:=h7.bX.cell;have H7:=hid h7;clear h7 b7 HS cA;generalize World.drewN _ q=W7 at *)
     |(go_at_call 31;refine (HRt.out _).mono ?_;rintro e w8 ⟨rfl,hb8⟩;have H8:=hid (H7.out.bel hb8)))
    exact H8.out.fail HSb3 rfl rfl
   ·have HSb3:=HSb2.out
    simp only [Bool.and_true,if_true] at HSb3
    cases neg
    ·simp only [Bool.false_eq_true,if_false] at HSb3
     have HSb4:=hid HSb3;clear HSb2 HSb3
     go_wp2_with (first
      |(go_at_call 19;refine (HWl.out _ HS.out.1.rd).mono ?_;rintro e w6 ⟨rfl,q,rfl⟩;have h7:=HS.out.1.bel (below_drwN (Below.refl _ _) q);have b7:=HS.out.2.1.drewN q;have c7:=b7.cell;have cX:=h7.bX.cell;have H7:=hid h7;clear h7 b7 HS cA;generalize World.drewN _ q=W7 at *)
      |(go_at_call 31;refine (HRt.out _).mono ?_;rintro e w8 ⟨rfl,hb8⟩;have h8:=H7.out.bel hb8;have H8:=hid h8;clear cX c7 H7 hb8;have cX:=h8.bX.cell;have fX:=h8.bX.frozen;have cE:=h8.bE.cell;have fE:=h8.bE.frozen;clear h8))
     exact span_end ⟨by rw [HSb4.out],by rw [HSb4.out]⟩ H8.out.bX H8.out.bE H8.out.hb rfl rfl
    ·simp only [if_true] at HSb3
     have hN:=fun z=>dneg_any a b c6 d e6 h6 i6 j6 Hoct.out.1 Hoct.out.2 z
     have HSb4:=hid (show (.agg (durF (flF (spanB (tx s)).1)):Value)= .agg (durF (negF (oct a b c6 d e6 h6 i6 j6) 8))/\(spanB (tx s)).2=0 from by rw [HSb3,neg_oct];exact ⟨rfl,rfl⟩)
     obtain ⟨y0,e0⟩:∃ y,negF (oct a b c6 d e6 h6 i6 j6) 8 0=y:=⟨_,rfl⟩;obtain ⟨y1,e1⟩:∃ y,negF (oct a b c6 d e6 h6 i6 j6) 8 1=y:=⟨_,rfl⟩;obtain ⟨y2,e2⟩:∃ y,negF (oct a b c6 d e6 h6 i6 j6) 8 2=y:=⟨_,rfl⟩;obtain ⟨y3,e3⟩:∃ y,negF (oct a b c6 d e6 h6 i6 j6) 8 3=y:=⟨_,rfl⟩;obtain ⟨y4,e4⟩:∃ y,negF (oct a b c6 d e6 h6 i6 j6) 8 4=y:=⟨_,rfl⟩;obtain ⟨y5,e5⟩:∃ y,negF (oct a b c6 d e6 h6 i6 j6) 8 5=y:=⟨_,rfl⟩;obtain ⟨y6,e6'⟩:∃ y,negF (oct a b c6 d e6 h6 i6 j6) 8 6=y:=⟨_,rfl⟩;obtain ⟨y7,e7⟩:∃ y,negF (oct a b c6 d e6 h6 i6 j6) 8 7=y:=⟨_,rfl⟩;simp only [durF,e0,e1,e2,e3,e4,e5,e6',e7] at hN
     have HEn:=hid (show (.agg (durF (negF (oct a b c6 d e6 h6 i6 j6) 8)):Value)= .agg #[.int .i64 y0,.int .i64 y1,.int .i64 y2,.int .i64 y3,.int .i64 y4,.int .i64 y5,.int .i64 y6,.int .i64 y7] from by simp only [durF,e0,e1,e2,e3,e4,e5,e6',e7])
     have HN:=hid hN;clear HSb2 HSb3 hN e0 e1 e2 e3 e4 e5 e6' e7
     go_wp2_with (first
      |(go_at_call 19;refine (HWl.out _ HS.out.1.rd).mono ?_;rintro e w6 ⟨rfl,q,rfl⟩;have h7:=HS.out.1.bel (below_drwN (Below.refl _ _) q);have b7:=HS.out.2.1.drewN q;have c7:=b7.cell;have cX:=h7.bX.cell;have H7:=hid h7;clear h7 b7 HS cA;generalize World.drewN _ q=W7 at *)
      |(go_at_call 31;refine (HRt.out _).mono ?_;rintro e w8 ⟨rfl,hb8⟩;have h8:=H7.out.bel hb8;have H8:=hid h8;clear cX c7 H7 hb8;have cX:=h8.bX.cell;clear h8)
      |(go_at_call 14;refine (HN.out _).mono ?_;rintro e w9 ⟨rfl,hb9⟩;have h9:=H8.out.bel hb9;have H9:=hid h9;clear cX H8 hb9;have cX:=h9.bX.cell;have fX:=h9.bX.frozen;have cE:=h9.bE.cell;have fE:=h9.bE.frozen;clear h9))
     exact span_end ⟨by rw [HSb4.out.1,HEn.out],HSb4.out.2⟩ (set8 _ _ _ _ _ _ _ _ H9.out.bX) (far8 H9.out.bE (by omega)) (bel8 H9.out.hb (Nat.le_refl _)) rfl rfl
end Gr
end
end Go.Proofs.YtiiekaehbahenaaGreatDoor
