/-
  Contracts of the code that the law reaches, and plain laws. Conditions: as each says.
-/
import Derived.Test.YtiiekaehbahenaaGreatDoorRows
import Derived.Deep.DeepHandedRow
import Derived.Shelf.Vars
import Derived.LaidLaws
import Derived.Lay
import Derived.Test.YtiiekaehbahenaaGreatDoorV33
set_option linter.all false
set_option maxHeartbeats 40000000
set_option maxRecDepth 100000
namespace Go.Proofs.YtiiekaehbahenaaGreatDoor
open Lib (hid)
open Go.Proofs.Tryz
section
section
namespace Wit
open Go.RowKit
theorem maxLen_cell {W:World} (h:W.ShapedOpen prog):∃ m,W.cell? ⟨1,0,none⟩=some (.int .i64 m):=
 cell_of_shapedOpen_int (g:=1) (t:=3) (zero:=#[.int .i64 0]) h (of_decide_eq_true (by kernel_rfl)) (by kernel_rfl) rfl (by kernel_rfl) (by kernel_rfl) underlying3
theorem own:ownKnob prog.godebug=none:=by kernel_rfl
noncomputable def laidWorld (os:Os):World:=World.laidAll prog os Rows.grammarClocksUptoRow.laid
theorem laid_met (os:Os) (args:Array Value):laidMet prog Rows.grammarClocksUptoRow.laid ((laidWorld os).forCall (fun _ _=>0) ⟨#[],args,[]⟩).memory:=
 laidMet_laidAll _ (by kernel_rfl) (by kernel_rfl)
theorem shaped (os:Os) (args:Array Value):((laidWorld os).forCall (fun _ _=>0) ⟨#[],args,[]⟩).Shaped prog:=
 World.shaped_of_ZipB (by kernel_rfl) (by kernel_rfl)
theorem row_shaped {H:Type} {enc:TypeId×Value->H} {C:Checked} {os:Os} {f:FuncId} {fn:Func} {s:OpenSpec} {conds:List PathCond} {apart:Bool} {laid:List (String×DataW Unit)} (modest:Bool) (w0:World) (args:Array Value) (hos:w0.os=os)
  (hsh:(w0.forCall (fun _ _=>0) ⟨#[],args,[]⟩).Shaped C.prog)
  (hok:Input.okWideB C.prog (w0.forCall (fun _ _=>0) ⟨#[],args,[]⟩) f ⟨#[],args,[]⟩=true)
  (hrow:s.preRow enc C.prog fn conds apart laid (w0.forCall (fun _ _=>0) ⟨#[],args,[]⟩).memory args):
  ∃ (w:World) (tape:Tape) (i:Input),w.os=os/\(w.forCall tape i).Shaped C.prog/\i.vars=[]/\Input.okWide C.prog (w.forCall tape i) .any w.heap.size f i/\
   s.preRow enc C.prog fn conds apart laid (w.forCall tape i).memory i.args/\({ modest:=modest }:Assume).holds C.prog (lone (Frame.enter C.prog f i.args .normal) [] (w.forCall tape i)):=
 ⟨w0,fun _ _=>0,⟨#[],args,[]⟩,hos,hsh,(Input.okWide_of_okWideB (base:=0) hok).1,(Input.okWide_of_okWideB hok).2,hrow,by
  simp only [Assume.holds]
  exact ⟨by simp,by simp,fun _=>Modest.zero,by simp,by simp⟩⟩
end Wit
end
end
section
section
namespace Gr
open Go.RowKit Mem Atl Wid
abbrev zpC:Array Value:=#[.int .i64 0,.int .i64 0,.int .i64 0,.bool false,.int .i64 0,.int .i64 0,.int .i64 0,.int .i64 0,.int .i64 0,.int .i64 0,.string ⟨#[]⟩]
theorem eq_zp (z:World):(Op.equalIn 10000 40 (.agg zpC) (.agg zpC)).run prog z= .ok true z:=by kernel_rfl
theorem eq_zd (z:World):(Op.equalIn 10000 32 (.agg zdC) (.agg zdC)).run prog z= .ok true z:=by kernel_rfl
theorem eq_zt (z:World):(Op.equalIn 10000 23 (.agg #[.int .i64 0,.int .i64 0,.int .i64 0,.int .i64 0]) (.agg #[.int .i64 0,.int .i64 0,.int .i64 0,.int .i64 0])).run prog z= .ok true z:=by kernel_rfl
theorem parse_odd (s:ByteArray) (m:Int) (w:World) (hs:s.size<=2097152) (hm:w.cell? ⟨1,0,none⟩=some (.int .i64 m)) {p:Nat} {c:UInt8} (hp:(tx s)[p]?=some c) (hc:ordB c=false):
  Calls prog 13 #[.string s] w fun e w'=>e= .returned (.tuple #[.agg zpC,.int .i64 6])/\Below w.heap.size w w':=by
 refine (parse_text s m w hs hm).mono ?_
 rintro e w' ⟨rfl,hb⟩
 exact ⟨by rw [parseA,form_odd (fun s=>name_all) (fun s=>val_all) hp hc];rfl,hb⟩
theorem clock_oddc (s:ByteArray) (w:World) (hs:s.size<=2097152) {p:Nat} {c:UInt8} (hp:(tx s)[p]?=some c) (hc:ordB c=false):
  Calls prog 8 #[.string s] w fun e w'=>e= .returned (.tuple #[.agg #[.int .i64 0,.int .i64 0,.int .i64 0,.int .i64 0],.int .i64 6])/\Below w.heap.size w w':=by
 refine (clock_text s w hs).mono ?_
 rintro e w' ⟨rfl,hb⟩
 exact ⟨by rw [clock_odd hp hc];rfl,hb⟩
theorem span_oddc (s:ByteArray) (w:World) (hs:s.size<=2097152) {p:Nat} {c:UInt8} (hp:(tx s)[p]?=some c) (hc:ordB c=false):
  Calls prog 11 #[.string s] w fun e w'=>e= .returned (.tuple #[.agg zdC,.int .i64 6])/\Below w.heap.size w w':=by
 refine (span_text s w hs).mono ?_
 rintro e w' ⟨rfl,hb⟩
 exact ⟨by rw [spanV,spanB,span_odd hp hc];rfl,hb⟩
def oddC (n:Nat):Nat:=if 32<=n/\n<127 then n+128 else n
theorem odd_lt {n:Nat} (h:n<256):oddC n<256:=by unfold oddC;split<;>omega
theorem odd_no {n:Nat} (h:n<256):ordB (UInt8.ofNat (oddC n))=false:=by
 have:=odd_lt h
 have h2:(UInt8.ofNat (oddC n)).toNat=oddC n:=by rw [UInt8.toNat_ofNat'];omega
 unfold ordB;rw [h2];unfold oddC
 split<;>simp<;>omega
theorem odds (a:ByteArray) (n:Int) (b:ByteArray) (m:Int) (w:World) (hm:w.cell? ⟨1,0,none⟩=some (.int .i64 m)) (ha:a.size<=2097152) (hn:(Lit.int .u8 n).wf=true) (hb:b.size<=2097152):
  Calls prog 7 #[.string a,.int .u8 n,.string b] w fun e w'=>e= .returned (.bool true)/\Below w.heap.size w w':=by
 have hn':0<=n/\n<256:=by
  simp [Lit.wf,IntKind.min,IntKind.max,IntKind.signed,IntKind.bits] at hn;omega
 obtain ⟨n,rfl⟩:=Int.eq_ofNat_of_zero_le hn'.1
 have hn:n<256:=by omega
 clear hn';have HA:=hid (fun z (hb:Below w.heap.size w z)=>alive_any m z (cell_later hb hm))
 by_cases hl:300<a.size+b.size
 ·have hl2:decide ((300:Int)<(a.size:Int)+(b.size:Int))=true:=decide_eq_true (by omega)
  clear hm hl;go_enter func7,ntmps7
  go_wp2_with (go_at_call 9;refine (HA.out _ (Below.refl _ _)).mono ?_;rintro e w1 ⟨rfl,hb⟩;have H1:=hid hb;clear hb)
  go_ret;exact ⟨rfl,H1.out⟩
 ·have hl2:decide ((300:Int)<(a.size:Int)+(b.size:Int))=false:=decide_eq_false (by omega)
  have ha3:a.size<=300:=by omega
  have hb3:b.size<=300:=by omega
  have HM:=hid hm;clear hm hl
  obtain ⟨cb,hcb,hcl⟩:∃ c:UInt8,c.toNat=oddC n/\ordB c=false:=⟨UInt8.ofNat (oddC n),by have:=odd_lt hn;rw [UInt8.toNat_ofNat'];omega,odd_no hn⟩
  have h1z:(⟨#[cb]⟩:ByteArray).size=1:=rfl
  have hz:(a++⟨#[cb]⟩++b).size<=2097152:=by rw [ByteArray.size_append,ByteArray.size_append,h1z];omega
  have hat:(tx (a++⟨#[cb]⟩++b))[a.size]?=some cb:=by
   rw [show tx (a++⟨#[cb]⟩++b)=tx a++(cb :: tx b) from by simp,List.getElem?_append_right (by simp)]
   simp
  have HP:=hid (fun z (hb:Below w.heap.size w z)=>parse_odd _ m z hz (cell_later hb HM.out) hat hcl);have HC:=hid (fun z=>clock_oddc _ z hz hat hcl);have HS:=hid (fun z=>span_oddc _ z hz hat hcl);have e1:=eq_zp;have e2:=eq_zt;have e3:=eq_zd;simp only [zpC,zdC] at HP HS e1 e3;clear hz hat hcl
  by_cases h32:32<=n/\n<127
  ·have q1:decide ((32:Int)<=(n:Int))=true:=decide_eq_true (by omega)
   have q2:decide ((n:Int)<127)=true:=decide_eq_true (by omega)
   have hlt:=h32.2
   have hcv:=fun z=>byte_conv ((n:Int)+128) cb (by rw [hcb];unfold oddC;rw [if_pos h32];omega) z
   clear h32 hcb;go_enter func7,ntmps7
   go_wp2_with (first
    |(go_at_call 13;have hB:=(Below.refl w.heap.size w).alloc (Nat.le_refl _) (.cells #[.int .u8 ((n:Int)+128)] 5);generalize World.alloc _ _=W0 at *;refine (HP.out W0 hB).mono ?_;rintro e w1 ⟨rfl,hb⟩;have H1:=hid (hB.trans (hb.mono hB.size));clear hb hB)
    |(go_at_call 8;have bP:=Blk.new w1 40 #[.int .i64 0,.int .i64 0,.int .i64 0,.bool false,.int .i64 0,.int .i64 0,.int .i64 0,.int .i64 0,.int .i64 0,.int .i64 0,.string ⟨#[]⟩];have hB:=H1.out.alloc H1.out.size (.cells #[.int .i64 0,.int .i64 0,.int .i64 0,.bool false,.int .i64 0,.int .i64 0,.int .i64 0,.int .i64 0,.int .i64 0,.int .i64 0,.string ⟨#[]⟩] 40);generalize World.alloc _ _=W1 at *;refine (HC.out W1).mono ?_;rintro e w2 ⟨rfl,hb⟩;have H2:=hid (And.intro (bP.below hb bP.lt) (hB.trans (hb.mono hB.size)));clear hb bP hB)
    |(go_at_call 11;have bC:=Blk.new w2 23 #[.int .i64 0,.int .i64 0,.int .i64 0,.int .i64 0];have bP:=H2.out.1.alloc (.cells #[.int .i64 0,.int .i64 0,.int .i64 0,.int .i64 0] 23);have hB:=H2.out.2.alloc H2.out.2.size (.cells #[.int .i64 0,.int .i64 0,.int .i64 0,.int .i64 0] 23);generalize World.alloc _ _=W2 at *;refine (HS.out W2).mono ?_;rintro e w3 ⟨rfl,hb⟩;have H3:=hid (And.intro (bP.below hb bP.lt) (And.intro (bC.below hb bC.lt) (hB.trans (hb.mono hB.size))));clear hb bP bC hB H2)
    |(go_at_call 9;have bD:=Blk.new w3 32 #[.int .i64 0,.int .i64 0,.int .i64 0,.int .i64 0,.int .i64 0,.int .i64 0,.int .i64 0,.int .i64 0];have bP:=H3.out.1.alloc (.cells #[.int .i64 0,.int .i64 0,.int .i64 0,.int .i64 0,.int .i64 0,.int .i64 0,.int .i64 0,.int .i64 0] 32);have bC:=H3.out.2.1.alloc (.cells #[.int .i64 0,.int .i64 0,.int .i64 0,.int .i64 0,.int .i64 0,.int .i64 0,.int .i64 0,.int .i64 0] 32);have hB:=H3.out.2.2.alloc H3.out.2.2.size (.cells #[.int .i64 0,.int .i64 0,.int .i64 0,.int .i64 0,.int .i64 0,.int .i64 0,.int .i64 0,.int .i64 0] 32);generalize World.alloc _ _=W3 at *;refine (HA.out W3 hB).mono ?_;rintro e w4 ⟨rfl,hb⟩;have x1:=bP.below hb bP.lt;have x2:=bC.below hb bC.lt;have x3:=bD.below hb bD.lt;have H4:=hid (hB.trans (hb.mono hB.size));have c1:=x1.cell;have c2:=x2.cell;have c3:=x3.cell;clear hb bP bC bD hB H3 x1 x2 x3))
   go_ret;exact ⟨rfl,H4.out⟩
  ·by_cases h2:32<=n
   ·have q1:decide ((32:Int)<=(n:Int))=true:=decide_eq_true (by omega)
    have q2:decide ((n:Int)<127)=false:=decide_eq_false (by omega)
    clear h2
    have hcv:=fun z=>byte_conv ((n:Int)) cb (by rw [hcb];unfold oddC;rw [if_neg h32]) z
    clear h32 hcb;go_enter func7,ntmps7
    go_wp2_with (first
     |(go_at_call 13;have hB:=(Below.refl w.heap.size w).alloc (Nat.le_refl _) (.cells #[.int .u8 ((n:Int))] 5);generalize World.alloc _ _=W0 at *;refine (HP.out W0 hB).mono ?_;rintro e w1 ⟨rfl,hb⟩;have H1:=hid (hB.trans (hb.mono hB.size));clear hb hB)
     |(go_at_call 8;have bP:=Blk.new w1 40 #[.int .i64 0,.int .i64 0,.int .i64 0,.bool false,.int .i64 0,.int .i64 0,.int .i64 0,.int .i64 0,.int .i64 0,.int .i64 0,.string ⟨#[]⟩];have hB:=H1.out.alloc H1.out.size (.cells #[.int .i64 0,.int .i64 0,.int .i64 0,.bool false,.int .i64 0,.int .i64 0,.int .i64 0,.int .i64 0,.int .i64 0,.int .i64 0,.string ⟨#[]⟩] 40);generalize World.alloc _ _=W1 at *;refine (HC.out W1).mono ?_;rintro e w2 ⟨rfl,hb⟩;have H2:=hid (And.intro (bP.below hb bP.lt) (hB.trans (hb.mono hB.size)));clear hb bP hB)
     |(go_at_call 11;have bC:=Blk.new w2 23 #[.int .i64 0,.int .i64 0,.int .i64 0,.int .i64 0];have bP:=H2.out.1.alloc (.cells #[.int .i64 0,.int .i64 0,.int .i64 0,.int .i64 0] 23);have hB:=H2.out.2.alloc H2.out.2.size (.cells #[.int .i64 0,.int .i64 0,.int .i64 0,.int .i64 0] 23);generalize World.alloc _ _=W2 at *;refine (HS.out W2).mono ?_;rintro e w3 ⟨rfl,hb⟩;have H3:=hid (And.intro (bP.below hb bP.lt) (And.intro (bC.below hb bC.lt) (hB.trans (hb.mono hB.size))));clear hb bP bC hB H2)
     |(go_at_call 9;have bD:=Blk.new w3 32 #[.int .i64 0,.int .i64 0,.int .i64 0,.int .i64 0,.int .i64 0,.int .i64 0,.int .i64 0,.int .i64 0];have bP:=H3.out.1.alloc (.cells #[.int .i64 0,.int .i64 0,.int .i64 0,.int .i64 0,.int .i64 0,.int .i64 0,.int .i64 0,.int .i64 0] 32);have bC:=H3.out.2.1.alloc (.cells #[.int .i64 0,.int .i64 0,.int .i64 0,.int .i64 0,.int .i64 0,.int .i64 0,.int .i64 0,.int .i64 0] 32);have hB:=H3.out.2.2.alloc H3.out.2.2.size (.cells #[.int .i64 0,.int .i64 0,.int .i64 0,.int .i64 0,.int .i64 0,.int .i64 0,.int .i64 0,.int .i64 0] 32);generalize World.alloc _ _=W3 at *;refine (HA.out W3 hB).mono ?_;rintro e w4 ⟨rfl,hb⟩;have x1:=bP.below hb bP.lt;have x2:=bC.below hb bC.lt;have x3:=bD.below hb bD.lt;have H4:=hid (hB.trans (hb.mono hB.size));have c1:=x1.cell;have c2:=x2.cell;have c3:=x3.cell;clear hb bP bC bD hB H3 x1 x2 x3))
    go_ret;exact ⟨rfl,H4.out⟩
   ·have q1:decide ((32:Int)<=(n:Int))=false:=decide_eq_false (by omega)
    clear h2
    have hcv:=fun z=>byte_conv ((n:Int)) cb (by rw [hcb];unfold oddC;rw [if_neg h32]) z
    clear h32 hcb;go_enter func7,ntmps7
    go_wp2_with (first
     |(go_at_call 13;have hB:=(Below.refl w.heap.size w).alloc (Nat.le_refl _) (.cells #[.int .u8 ((n:Int))] 5);generalize World.alloc _ _=W0 at *;refine (HP.out W0 hB).mono ?_;rintro e w1 ⟨rfl,hb⟩;have H1:=hid (hB.trans (hb.mono hB.size));clear hb hB)
     |(go_at_call 8;have bP:=Blk.new w1 40 #[.int .i64 0,.int .i64 0,.int .i64 0,.bool false,.int .i64 0,.int .i64 0,.int .i64 0,.int .i64 0,.int .i64 0,.int .i64 0,.string ⟨#[]⟩];have hB:=H1.out.alloc H1.out.size (.cells #[.int .i64 0,.int .i64 0,.int .i64 0,.bool false,.int .i64 0,.int .i64 0,.int .i64 0,.int .i64 0,.int .i64 0,.int .i64 0,.string ⟨#[]⟩] 40);generalize World.alloc _ _=W1 at *;refine (HC.out W1).mono ?_;rintro e w2 ⟨rfl,hb⟩;have H2:=hid (And.intro (bP.below hb bP.lt) (hB.trans (hb.mono hB.size)));clear hb bP hB)
     |(go_at_call 11;have bC:=Blk.new w2 23 #[.int .i64 0,.int .i64 0,.int .i64 0,.int .i64 0];have bP:=H2.out.1.alloc (.cells #[.int .i64 0,.int .i64 0,.int .i64 0,.int .i64 0] 23);have hB:=H2.out.2.alloc H2.out.2.size (.cells #[.int .i64 0,.int .i64 0,.int .i64 0,.int .i64 0] 23);generalize World.alloc _ _=W2 at *;refine (HS.out W2).mono ?_;rintro e w3 ⟨rfl,hb⟩;have H3:=hid (And.intro (bP.below hb bP.lt) (And.intro (bC.below hb bC.lt) (hB.trans (hb.mono hB.size))));clear hb bP bC hB H2)
     |(go_at_call 9;have bD:=Blk.new w3 32 #[.int .i64 0,.int .i64 0,.int .i64 0,.int .i64 0,.int .i64 0,.int .i64 0,.int .i64 0,.int .i64 0];have bP:=H3.out.1.alloc (.cells #[.int .i64 0,.int .i64 0,.int .i64 0,.int .i64 0,.int .i64 0,.int .i64 0,.int .i64 0,.int .i64 0] 32);have bC:=H3.out.2.1.alloc (.cells #[.int .i64 0,.int .i64 0,.int .i64 0,.int .i64 0,.int .i64 0,.int .i64 0,.int .i64 0,.int .i64 0] 32);have hB:=H3.out.2.2.alloc H3.out.2.2.size (.cells #[.int .i64 0,.int .i64 0,.int .i64 0,.int .i64 0,.int .i64 0,.int .i64 0,.int .i64 0,.int .i64 0] 32);generalize World.alloc _ _=W3 at *;refine (HA.out W3 hB).mono ?_;rintro e w4 ⟨rfl,hb⟩;have x1:=bP.below hb bP.lt;have x2:=bC.below hb bC.lt;have x3:=bD.below hb bD.lt;have H4:=hid (hB.trans (hb.mono hB.size));have c1:=x1.cell;have c2:=x2.cell;have c3:=x3.cell;clear hb bP bC bD hB H3 x1 x2 x3))
    go_ret;exact ⟨rfl,H4.out⟩
end Gr
end
end
end Go.Proofs.YtiiekaehbahenaaGreatDoor
