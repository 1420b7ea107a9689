/-
  Contracts of the code that the law reaches, and plain laws. Conditions: as each says.
-/
import Derived.Test.YtmlejgdohcpmjaaGreatDoorV12
import Derived.Laws.IdiomStrings
import Derived.Laws.BitsAllLaws
import Derived.Test.YtmlejgdohcpmjaaGreatDoorV05
set_option linter.all false
set_option maxHeartbeats 40000000
set_option maxRecDepth 100000
namespace Go.Proofs.YtmlejgdohcpmjaaGreatDoor
open Tryz
section
namespace Rd
open Go.RowKit Mem Img
abbrev badE:Ending:= .panicked [{ v:= .iface 39 (.int .i64 18),recovered:=false }]
theorem World.grownBy_setCell (w:World) (p:Addr) (v:Value) {g:Nat} (hp:p.block=g):w.grownBy (w.setCell p v) (some g):=
 ⟨rfl,rfl,rfl,by simp [World.setCell],fun k _ hk=>Below.heap_setCell _ _ _ _ (fun e=>hk (by rw [e,hp]))⟩
def takeM (n:Nat) (l:List UInt8):Option (List UInt8×List UInt8):=if n<=l.length then some (l.take n,l.drop n) else none
abbrev strV (l:List UInt8):Value:= .string ⟨l.toArray⟩
theorem ext_take (l:List UInt8) (n:Nat):(⟨l.toArray⟩:ByteArray).extract 0 n=⟨(l.take n).toArray⟩:=by
 apply ByteArray.ext
 simp [ByteArray.extract,ByteArray.copySlice]
theorem ext_drop (l:List UInt8) (n:Nat):(⟨l.toArray⟩:ByteArray).extract n l.length=⟨(l.drop n).toArray⟩:=by
 apply ByteArray.ext
 simp [ByteArray.extract,ByteArray.copySlice]
 exact List.take_of_length_le (by simp)
def numU (l:List UInt8):Nat:=l.foldl (fun n c=>n*256+c.toNat) 0
theorem numU_snoc (l:List UInt8) (c:UInt8):numU (l++[c])=numU l*256+c.toNat:=by simp [numU,List.foldl_append]
def numM (q:IntKind) (k:Nat) (l:List UInt8):Option (Int×List UInt8):=(takeM k l).map fun x=>(q.wrap (numU x.1),x.2)
theorem gr2 {w w1 w2:World} {g:Nat} (h:w.grownBy w1 (some g)) (k:w1.grownBy w2 none):w.grownBy w2 (some g):=
 ⟨k.os.trans h.os,k.tape.trans h.tape,k.output.trans h.output,Nat.le_trans h.size k.size,fun j hj hne=>(k.block j (Nat.lt_of_lt_of_le hj h.size) (by simp)).trans (h.block j hj hne)⟩
theorem gr3 {w w1 w2:World} {r:Option Nat} (h:w.grownBy w1 r) (k:w1.grownBy w2 r):w.grownBy w2 r:=
 ⟨k.os.trans h.os,k.tape.trans h.tape,k.output.trans h.output,Nat.le_trans h.size k.size,fun j hj hne=>(k.block j (Nat.lt_of_lt_of_le hj h.size) hne).trans (h.block j hj hne)⟩
theorem or_i64 (y b:Int) (hy:y % 256=0) (hb:0<=b/\b<256):bits .or .i64 y b=IntKind.i64.wrap (y+b):=by
 show IntKind.i64.wrap ((BitVec.ofInt 64 y ||| BitVec.ofInt 64 b).toNat:Int)=_
 rw [BitVec.toNat_or,BitVec.toNat_ofInt,BitVec.toNat_ofInt]
 have h1:(b % ((2 ^ 64:Nat):Int)).toNat=b.toNat:=by congr 1;omega
 rw [h1]
 obtain ⟨Y,hY⟩:∃ Y:Nat,(y % ((2 ^ 64:Nat):Int)).toNat=Y <<< 8:=⟨(y % ((2 ^ 64:Nat):Int)).toNat / 256,by rw [Nat.shiftLeft_eq];omega⟩
 rw [hY,<-Nat.shiftLeft_add_eq_or_of_lt (by omega:b.toNat<2 ^ 8),<-hY,IntKind.wrap_i64,IntKind.wrap_i64]
 omega
theorem w64 (x:Int):∃ t,wrap64 x=x+18446744073709551616*t:=⟨-((x+9223372036854775808) / 18446744073709551616),by unfold wrap64;omega⟩
theorem i64w (x:Int):∃ t,IntKind.i64.wrap x=x+18446744073709551616*t:=⟨-((x+9223372036854775808) / 18446744073709551616),by rw [IntKind.wrap_i64];omega⟩
theorem i64_small (b:Nat) (hb:b<256):wrap64 b=b:=by unfold wrap64;omega
theorem or_step (n:Int) (b:Nat) (hb:b<256):∃ t,bits .or .i64 (wrap64 (wrap64 n*256)) (wrap64 b)=n*256+b+18446744073709551616*t:=by
 obtain ⟨t1,h1⟩:=w64 n;obtain ⟨t2,h2⟩:=w64 (wrap64 n*256)
 rw [i64_small b hb,or_i64 _ _ (by rw [h2];omega) (by omega)]
 obtain ⟨t3,h3⟩:=i64w (wrap64 (wrap64 n*256)+b);rw [h3,h2,h1]
 exact ⟨256*t1+t2+t3,by omega⟩
theorem step_u32 (M b:Nat) (hb:b<256):bits .or .i64 (wrap64 (wrap64 ((M:Int) % 4294967296)*256)) (wrap64 b) % 4294967296=IntKind.u32.wrap ((M*256+b:Nat):Int):=by
 obtain ⟨t,h⟩:=or_step ((M:Int) % 4294967296) b hb;rw [h,IntKind.wrap_u32];omega
theorem step_u8 (M b:Nat) (hb:b<256):bits .or .i64 (wrap64 (wrap64 ((M:Int) % 256)*256)) (wrap64 b) % 256=IntKind.u8.wrap ((M*256+b:Nat):Int):=by
 obtain ⟨t,h⟩:=or_step ((M:Int) % 256) b hb;rw [h,IntKind.wrap_u8];omega
theorem step_i64 (M b:Nat) (hb:b<256):bits .or .i64 (wrap64 (wrap64 (M:Int)*256)) (wrap64 b)=IntKind.i64.wrap ((M*256+b:Nat):Int):=by
 obtain ⟨t1,h1⟩:=w64 M;obtain ⟨t2,h2⟩:=w64 (wrap64 M*256)
 rw [i64_small b hb,or_i64 _ _ (by rw [h2];omega) (by omega),h2,h1,IntKind.wrap_i64,IntKind.wrap_i64]
 omega
theorem step_i32 (M b:Nat) (hb:b<256):wrap32 (bits .or .i64 (wrap64 (wrap64 (wrap32 M)*256)) (wrap64 b))=IntKind.i32.wrap ((M*256+b:Nat):Int):=by
 obtain ⟨t,h⟩:=or_step (wrap32 M) b hb
 obtain ⟨s,hs⟩:∃ s,wrap32 (M:Int)=M+4294967296*s:=⟨-((M+2147483648) / 4294967296),by unfold wrap32;omega⟩
 rw [h,hs,IntKind.wrap_i32];unfold wrap32;omega
theorem step_u16 (M b:Nat) (hb:b<256):IntKind.u16.wrap (bits .or .i64 (wrap64 (wrap64 (IntKind.u16.wrap M)*256)) (wrap64 b))=IntKind.u16.wrap ((M*256+b:Nat):Int):=by
 obtain ⟨t,h⟩:=or_step (IntKind.u16.wrap M) b hb;rw [h,IntKind.wrap_u16,IntKind.wrap_u16,IntKind.wrap_u16];omega
theorem bytes_of (w:World) (bs:List UInt8):∃ cap w2,(convert 9 135 (.string ⟨bs.toArray⟩)).run prog w= .ok (.slice (some ⟨w.heap.size,0,none⟩) bs.length cap) w2/\w.grownBy w2 none/\
  ∀ j (hj:j<bs.length),w2.cell? ⟨w.heap.size,j,none⟩=some (.int .u8 (bs[j].toNat:Int)):=by
 refine ⟨_,_,run_bytes_of_string w _ _ _ ⟨bs.toArray⟩ underlying9 underlying135 underlying5,⟨rfl,rfl,rfl,by simp,fun _ hk _=>heap_alloc_old w.drew _ hk⟩,fun j hj=>?_⟩
 rw [show w.heap.size=w.drew.heap.size from rfl,World.cell?_alloc_mark]
 simp [bytesRow]
 rw [Array.getElem?_append_left (by simp;exact hj)]
 simp [hj]
end Rd
namespace Rd
open Go.RowKit Mem Img
def shortM (l:List UInt8):Option (List UInt8×List UInt8):=(numM .u8 1 l).bind fun x=>takeM x.1.toNat x.2
def manyM (b:Nat) (l:List UInt8):Option (Int×List UInt8):=(numM .u32 4 l).bind fun x=>if (x.2.length:Int)<x.1*b then none else some x
theorem numM_u8 {k:Nat} {l rest:List UInt8} {n:Int} (h:numM .u8 k l=some (n,rest)):0<=n/\n<256/\rest.length<=l.length:=by
 unfold numM takeM at h
 split at h
 ·simp only [Option.map_some,Option.some.injEq,Prod.mk.injEq] at h
  rw [IntKind.wrap_u8] at h
  refine ⟨by omega,by omega,?_⟩
  rw [<-h.2,List.length_drop];omega
 ·cases h
theorem numM_u32 {k:Nat} {l rest:List UInt8} {n:Int} (h:numM .u32 k l=some (n,rest)):0<=n/\n<4294967296/\rest.length<=l.length:=by
 unfold numM takeM at h
 split at h
 ·simp only [Option.map_some,Option.some.injEq,Prod.mk.injEq] at h
  rw [IntKind.wrap_u32] at h
  refine ⟨by omega,by omega,?_⟩
  rw [<-h.2,List.length_drop];omega
 ·cases h
def abbrM (pool:List UInt8) (at_:Nat):Option (List UInt8):=
 if pool.length<=at_ then none else if (Lib.cut (pool.drop at_) [0]).2.2=true then some (Lib.cut (pool.drop at_) [0]).1 else none
end Rd
namespace Rd
open Go.RowKit Mem Img
section
variable {w0 w w':World} {g:Nat} {os:List (Nat×TypeId×Array Value)} {l l':List UInt8}
theorem grown_alloc (w:World) (o:Obj):w.grownBy (w.alloc o) none:=⟨rfl,rfl,rfl,by simp,fun k hk _=>Below.heap_alloc w o k hk⟩
theorem grown_set {r:Option Nat} (h:w0.grownBy w r) {p:Addr} (v:Value) (hp:w0.heap.size<=p.block):w0.grownBy (w.setCell p v) r:=
 ⟨h.os,h.tape,h.output,by simpa [World.setCell] using h.size,fun k hk hne=>(Below.heap_setCell _ _ _ _ (by omega)).trans (h.block k hk hne)⟩
end
def rM4 (v:List UInt8) (lo a b c d:Int) (r:List UInt8):Option (Rule×List UInt8):=
 (numM .i32 4 r).bind fun g=>(numM .u8 1 g.2).bind fun h=>(numM .i32 4 h.2).bind fun i=>(shortM i.2).map fun j=>(⟨⟨v.toArray⟩,lo,1000000,a,b,c,d,g.1,h.1,i.1,⟨j.1.toArray⟩⟩,j.2)
def rM (v:List UInt8) (lo:Int) (k:Nat) (a b c d:Int) (r:List UInt8):Option (Rule×List UInt8):=
 match k with
 |0=>(numM .u8 1 r).bind fun e=>(numM .u8 1 e.2).bind fun f=>(numM .u8 1 f.2).bind fun g=>(numM .u8 1 g.2).bind fun h=>rM4 v lo e.1 f.1 g.1 h.1 h.2
 |1=>(numM .u8 1 r).bind fun f=>(numM .u8 1 f.2).bind fun g=>(numM .u8 1 g.2).bind fun h=>rM4 v lo a f.1 g.1 h.1 h.2
 |2=>(numM .u8 1 r).bind fun g=>(numM .u8 1 g.2).bind fun h=>rM4 v lo a b g.1 h.1 h.2
 |3=>(numM .u8 1 r).bind fun h=>rM4 v lo a b c h.1 h.2
 |_=>rM4 v lo a b c d r
def ruleM (l:List UInt8):Option (Rule×List UInt8):=(shortM l).bind fun a=>(numM .u16 2 a.2).bind fun b=>rM a.1 b.1 0 0 0 0 0 b.2
theorem numM_u16 {k:Nat} {l rest:List UInt8} {n:Int} (h:numM .u16 k l=some (n,rest)):0<=n/\n<65536:=by
 unfold numM takeM at h
 split at h
 ·simp only [Option.map_some,Option.some.injEq,Prod.mk.injEq] at h
  rw [IntKind.wrap_u16] at h
  exact ⟨by omega,by omega⟩
 ·cases h
theorem numM_i32 {k:Nat} {l rest:List UInt8} {n:Int} (h:numM .i32 k l=some (n,rest)): -2147483648<=n/\n<2147483648:=by
 unfold numM takeM at h
 split at h
 ·simp only [Option.map_some,Option.some.injEq,Prod.mk.injEq] at h
  rw [IntKind.wrap_i32] at h
  exact ⟨by omega,by omega⟩
 ·cases h
def zRule:Array Value:=#[.string ⟨#[]⟩,.int .i64 0,.int .i64 0,.int .i64 0,.int .i64 0,.int .i64 0,.int .i64 0,.int .i64 0,.int .i64 0,.int .i64 0,.string ⟨#[]⟩]
end Rd
end
end Go.Proofs.YtmlejgdohcpmjaaGreatDoor
