/-
  Contracts of the code that the law reaches, and plain laws. Conditions: as each says.
-/
import Derived.Test.YtmlejgdohcpmjaaGreatDoorV02
set_option linter.all false
set_option maxHeartbeats 40000000
set_option maxRecDepth 100000
namespace Go.Proofs.YtmlejgdohcpmjaaGreatDoor
open Tryz
section
namespace Img
open Go.RowKit Mem
def sumB (l:List UInt8):Nat:=l.foldl (fun n c=>(31*n+c.toNat) % 4294967296) 0
theorem sumB_lt (l:List UInt8):sumB l<4294967296:=by
 unfold sumB;generalize hz:(0:Nat)=z
 have:z<4294967296:=by omega
 clear hz
 induction l generalizing z with
 |nil=>simpa using this
 |cons a t ih=>rw [List.foldl_cons];exact ih _ (Nat.mod_lt _ (by omega))
theorem sumB_snoc (l:List UInt8) (c:UInt8):sumB (l++[c])=(31*sumB l+c.toNat) % 4294967296:=by simp [sumB,List.foldl_append]
def byteI (n:Int) (i:Nat):UInt8:=UInt8.ofNat (n / 256 ^ i % 256).toNat
def num (n:Int):Nat->List UInt8
 |0=>[]
 |k+1=>byteI n k :: num n k
theorem num_length (n:Int) (k:Nat):(num n k).length=k:=by
 induction k with
 |zero=>rfl
 |succ k ih=>simp [num,ih]
def short (l:List UInt8):List UInt8:=num l.length 1++l
structure Kept (B g:Nat) (w w':World):Prop where
 bel:Below B w w'
 oth:Lib.OthersKept 5 (some g) w w'
theorem Kept.refl (B g:Nat) (w:World):Kept B g w w:=⟨Below.refl _ _,Lib.OthersKept.refl _ _ _⟩
theorem Kept.trans {B g:Nat} {w w' w'':World} (h:Kept B g w w') (k:Kept B g w' w''):Kept B g w w'':=⟨h.bel.trans k.bel,h.oth.trans k.oth⟩
theorem byteI_wrap (n:Int) (k:Nat):Value.int .u8 (IntKind.u8.wrap (n / 2 ^ (8*(k:Int)).toNat))=Value.int .u8 (byteI n k).toNat:=by
 have e:(8*(k:Int)).toNat=8*k:=by omega
 have e2:(2:Int) ^ (8*k)=256 ^ k:=by rw [Int.pow_mul];rfl
 rw [e,e2,byteI]
 have h0:0<=n / 256 ^ k % 256:=Int.emod_nonneg _ (by omega)
 have h1:n / 256 ^ k % 256<256:=Int.emod_lt_of_pos _ (by omega)
 rw [IntKind.wrap_u8]
 congr 1
 rw [UInt8.toNat_ofNat'];omega
theorem info8:(prog.info? 5).map (fun i=>(i.zero,i.size,i.bytes))=some (some (.int .u8 0),1,1):=by kernel_rfl
end Img
namespace Img
open Go.RowKit Mem
def ruleB (r:Rule):List UInt8:=
 short r.name.data.toList++num r.lo 2++num r.month 1++num r.kind 1++num r.weekday 1++num r.day 1++num r.time 4++num r.ref 1++num r.save 4++short r.letter.data.toList
theorem short_length (l:List UInt8):(short l).length=l.length+1:=by simp [short,num_length];omega
theorem Kept.blk {B g b:Nat} {w w':World} {t:TypeId} {cs:Array Value} (h:Kept B g w w') (hb:Blk w b t cs) (hg:b≠g) (ht:t≠5):Blk w' b t cs:=by
 refine h.oth b _ hb (by simpa using hg) ?_
 intro c fz e
 injection e with _ e2
 exact ht e2
theorem Kept.alloc {B g:Nat} {w w':World} (h:Kept B g w w') (hB:B<=w.heap.size) (o:Obj):Kept B g w (w'.alloc o):=⟨h.bel.alloc (Nat.le_trans hB h.bel.size) o,h.oth.alloc o⟩
theorem Kept.drew {B g:Nat} {w w':World} (h:Kept B g w w'):Kept B g w w'.drew:=⟨h.bel.drew,h.oth.drew⟩
section
variable {B g:Nat} {w0 w:World} {os:List (Nat×Obj)} {l:List UInt8}
theorem not_bytes {t:TypeId} {cs:Array Value} {z:Nat×Nat} (ht:t≠5):∀ c fz,Obj.cells cs t z≠.cells c 5 fz:=by
 intro c fz e
 injection e with _ e2
 exact ht e2
end
def four (a b c d:Int):Nat->List UInt8
 |0=>[]
 |1=>num a 1
 |2=>num a 1++num b 1
 |3=>num a 1++num b 1++num c 1
 |_=>num a 1++num b 1++num c 1++num d 1
theorem four_len (a b c d:Int) (k:Nat):(four a b c d k).length<=4:=by
 unfold four
 split<;>simp [num_length]
theorem four_succ (a b c d:Int) (k:Nat) (hk:k<4):four a b c d (k+1)=four a b c d k++num (#[a,b,c,d].getD k 0) 1:=by
 match k,hk with
 |0,_=>rfl
 |1,_=>rfl
 |2,_=>rfl
 |3,_=>rfl
end Img
namespace Img
open Go.RowKit Mem Go.Maps
def kl (p:Phase):Lit:= .string (keyBytes [.int .i64 p.off,.int .i64 p.save,.string p.abbr.data.toList])
theorem phLaidOut:laidOutB prog=true:=by kernel_rfl
theorem phRow:(23:TypeId)<prog.types.size:=of_decide_eq_true (by kernel_rfl)
theorem phWide:(match prog.underlying 23 with|some (.array _ _)|some (.struct _)=>true|_=>false)=true:=by rw [underlying23]
theorem phLaw:Keyed prog 23:=Keyed.of_law (deep_law_laid phLaidOut (m:=3) (by omega) phRow (by kernel_rfl) phWide)
theorem phType:prog.keyType 23=true:=by kernel_rfl
theorem phCells:prog.cellsOf 23=3:=by kernel_rfl
theorem cells3:prog.cellsOf 3=1:=by kernel_rfl
theorem cells9:prog.cellsOf 9=1:=by kernel_rfl
theorem phKey (p:Phase) (h:PW p):keyOf prog 23 (.agg p.cells.toArray)=some (kl p):=by
 obtain ⟨h1,h2,h3⟩:=h
 have i64:∀ n:Int,In64 n->(Lit.int .i64 n).wf=true:=by
  intro n hn;unfold In64 at hn;simp [Lit.wf,IntKind.min,IntKind.max,IntKind.signed,IntKind.bits];omega
 have w1:=i64 _ h1;have w2:=i64 _ h2
 have w3:p.abbr.size<=maxLen:=by simp only [maxLen];omega
 simp only [keyOf,underlying23,phType]
 have hf:(Value.agg p.cells.toArray).formed prog 23=true:=by
  simp [Value.formed,underlying23,phCells,Phase.cells]
 rw [hf]
 have:prog.keyLits (prog.types.size+1) 23 (Value.agg p.cells.toArray).cells.toList=some [.int .i64 p.off,.int .i64 p.save,.string p.abbr.data.toList]:=by
  have hsz:∃ m,prog.types.size=m+1:=⟨prog.types.size - 1,by have:(23:Nat)<prog.types.size:=phRow;omega⟩
  obtain ⟨m,hm⟩:=hsz;rw [hm];simp [Program.keyLits,Value.cells,Phase.cells,underlying23,underlying3,underlying9,phCells,cells3,cells9,w1,w2,w3]
 rw [this]
 rfl
theorem kl_inj {p q:Phase} (hp:PW p) (hq:PW q) (h:kl p=kl q):p=q:=by
 have h1:=phKey p hp;have h2:=phKey q hq;rw [<-h] at h2;have:=phLaw.inj h1 h2;obtain ⟨a,b,c⟩:=p;obtain ⟨d,e,f⟩:=q
 simpa [Phase.cells] using this
theorem kl_key (p:Phase):WideAt.IsKeyLit (kl p):=trivial
def PM (l:List Phase) (D:DataW Unit):Prop:=
 IsMap D/\∀ p,PW p->has D (kl p)=decide (p∈l)/\(p∈l->∀ z,D.atKey (kl p) z= .lit (.int .i64 (l.idxOf p)))
theorem PM.snoc {l:List Phase} {D:DataW Unit} {q:Phase} (h:PM l D) (hq:PW q) (hn:q ∉ l):PM (l++[q]) (D.put (kl q) (.lit (.int .i64 l.length))):=by
 refine ⟨h.1.put _ _,fun p hp=>?_⟩
 by_cases e:p=q
 ·subst e
  refine ⟨by rw [has_put_same h.1 (kl_key p)];simp,fun _ z=>?_⟩
  rw [atKey_put_same h.1 (kl_key p)];rw [List.idxOf_append,if_neg hn];simp
 ·have hne:kl p≠kl q:=fun e2=>e (kl_inj hp hq e2)
  obtain ⟨h1,h2⟩:=h.2 p hp
  refine ⟨by rw [has_put_other hne,h1];simp [e],fun hm z=>?_⟩
  have hm':p∈l:=by simpa [e] using hm
  rw [atKey_put_other hne,h2 hm' z,List.idxOf_append,if_pos hm']
theorem PM.one {q:Phase} (hq:PW q):PM [q] ((DataW.map []).put (kl q) (.lit (.int .i64 0))):=by
 have h:PM [] (.map []):=⟨isMap_empty,fun p _=>⟨by simp [has],fun hm=>by simp at hm⟩⟩
 exact h.snoc hq (by simp)
theorem zero3 (w:World):(zeroValue 3).run prog w= .ok (.int .i64 0) w:=by kernel_rfl
theorem info23:(prog.info? 23).map (fun i=>(i.zero,i.size,i.bytes))=some (some (.agg #[.int .i64 0,.int .i64 0,.string ⟨#[]⟩]),3,32):=by kernel_rfl
theorem kindsL_succ (first:Phase) (ss:List Shift) (k:Nat) (hk:k<ss.length):kindsL first (ss.take (k+1))=if ss[k].ph∈kindsL first (ss.take k) then kindsL first (ss.take k) else kindsL first (ss.take k)++[ss[k].ph]:=by
 rw [List.take_succ_eq_append_getElem hk,kindsL,kindsL,List.foldl_append]
 rfl
theorem kindsL_length (first:Phase) (ss:List Shift) (k:Nat):(kindsL first (ss.take k)).length<=k+1:=by
 induction k with
 |zero=>simp [kindsL]
 |succ k ih=>
  by_cases hk:k<ss.length
  ·rw [kindsL_succ _ _ _ hk]
   split
   ·omega
   ·simp;omega
  ·rw [List.take_of_length_le (by omega)] at ih ⊢
   omega
theorem own_map_ne {H:Type} {w:World} {base r n m:Nat} {e k:TypeId} {size:Nat} {v:Value} {xs:List Value} {P:Program} {R:Value->Option (DataW H×List MemPlace)} {D:DataW H} (h:w.ownsRow base e size v n xs) (hm:w.ownsMap P k R r m D):v.ownBlock≠some r:=by
 obtain ⟨es,clock,hb,_⟩:=hm
 rcases h.2 with ⟨rfl,_⟩|⟨g',cap,cur,rfl,_,hh,_⟩
 ·simp [Value.ownBlock]
 ·intro he
  have:g'=r:=by simpa [Value.ownBlock] using he
  subst this;rw [hb] at hh
  cases hh
theorem kindsL_pos (first:Phase) (ss:List Shift):0<(kindsL first ss).length:=by
 unfold kindsL
 generalize hl:[first]=l
 have h0:0<l.length:=by subst hl;simp
 clear hl
 induction ss generalizing l with
 |nil=>exact h0
 |cons a t ih=>
  rw [List.foldl_cons]
  split
  ·exact ih _ h0
  ·exact ih _ (by simp)
end Img
end
end Go.Proofs.YtmlejgdohcpmjaaGreatDoor
