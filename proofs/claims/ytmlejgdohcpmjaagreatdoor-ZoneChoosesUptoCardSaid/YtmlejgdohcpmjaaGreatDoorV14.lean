/-
  Contracts of the code that the law reaches, and plain laws. Conditions: as each says.
-/
import Derived.Lib.Builder
import Derived.Lib.FrozenHead2
import Derived.Laws.Externs
import Derived.Test.YtmlejgdohcpmjaaGreatDoorV12
import Derived.Test.YtmlejgdohcpmjaaGreatDoorV05
set_option linter.all false
set_option maxHeartbeats 40000000
set_option maxRecDepth 100000
namespace Go.Proofs.YtmlejgdohcpmjaaGreatDoor
open Tryz
section
namespace Bld
open Go.RowKit
theorem sizeBuilder:(prog.info? 137).map (·.size)=some 2:=by kernel_rfl
theorem liesBuilder:liesAt prog prog.depth 137 (2 / prog.cellsOf 137) 0 137 1=true:=by kernel_rfl
theorem infoByte:(prog.info? 5).map (fun i=>(i.zero,i.size,i.bytes))=some (some (.int .u8 0),1,1):=by kernel_rfl
theorem check_used (b:Nat) (w:World) (h0:w.cell? ⟨b,0,none⟩=some (.pointer (some ⟨b,0,none⟩))):
  Calls prog 138 #[.pointer (some ⟨b,0,none⟩)] w fun e w'=>e= .returned (.tuple #[])/\w'=w:=by
 obtain ⟨j,hj,_⟩:=Option.map_eq_some_iff.1 sizeBuilder;go_enter func138,ntmps138;go_wp2;rw [Lib.run_neq_ptr_same w _ underlying134 hj];go_wp2
 go_end0
 exact ⟨rfl,rfl⟩
theorem check_fresh (b:Nat) (w:World) (h0:w.cell? ⟨b,0,none⟩=some (.pointer none)) (hsh:w.shape? b=some (137,2)) (hfz:w.frozen? ⟨b,0,none⟩=false):
  Calls prog 138 #[.pointer (some ⟨b,0,none⟩)] w fun e w'=>e= .returned (.tuple #[])/\w'=w.setCell ⟨b,0,none⟩ (.pointer (some ⟨b,0,none⟩)):=by
 obtain ⟨j,hj,hjs⟩:=Option.map_eq_some_iff.1 sizeBuilder;go_enter func138,ntmps138;go_wp2
 rw [Lib.run_to_unsafe w ⟨b,0,none⟩ underlying134 underlying189 hj (by rw [hjs];decide) hsh (Nat.zero_lt_succ 1)]
 simp only [Result.andThen];rw [Oper.upon_value];go_wp2
 rw [run_callFunc_extern func176 (by kernel_rfl) (by kernel_rfl) (by kernel_rfl) (e:=Extern.AbiNoEscape.same) (by kernel_rfl)]
 rw [Lib.run_noEscape];simp only [Result.andThen];rw [Oper.upon_value];go_wp2;rw [Lib.run_from_unsafe w ⟨b,0,none⟩ underlying189 underlying134 hj hsh liesBuilder];simp only [Result.andThen];rw [Oper.upon_value];go_wp2
 go_end0
 exact ⟨rfl,rfl⟩
theorem check_any (B b:Nat) (bs:List Value) (w:World) (h:Lib.IsBuilderF 137 5 B b bs w):
  Calls prog 138 #[.pointer (some ⟨b,0,none⟩)] w fun e w'=>e= .returned (.tuple #[])/\(Lib.BuilderAtF 137 5 B b (.pointer (some ⟨b,0,none⟩)) bs w'/\Below B w w'/\Lib.OthersKept 5 (some b) w w'):=by
 rcases h with h|h
 ·refine (check_fresh b w h.cell0 h.shape h.frozen0).mono ?_
  rintro e w' ⟨rfl,rfl⟩;exact ⟨rfl,h.used _,(Below.refl B w).setCell (p:=⟨b,0,none⟩) h.1 _,(Lib.OthersKept.refl _ _ w).setCell ⟨b,0,none⟩ rfl _⟩
 ·refine (check_used b w h.cell0).mono ?_
  rintro e w' ⟨rfl,rfl⟩;exact ⟨rfl,h,Below.refl B _,Lib.OthersKept.refl _ _ _⟩
theorem write_any (B b:Nat) (bs:List Value) (s:ByteArray) (w:World) (h:Lib.IsBuilderF 137 5 B b bs w) (hlen:bs.length+s.size<=140737488355328) (hBw:B<=w.heap.size):
  Calls prog 101 #[.pointer (some ⟨b,0,none⟩),.string s] w fun e w'=>e= .returned (.tuple #[.int .i64 s.size,.nilIface])/\(Lib.BuilderAtF 137 5 B b (.pointer (some ⟨b,0,none⟩)) (bs++Lib.strCells s) w'/\Below B w w'/\Lib.OthersKept 5 (some b) w w'):=by
 obtain ⟨i0,hi,hz0,hz1,hz2⟩:=info_parts infoByte;go_enter func101,ntmps101
 go_wp2_with (go_at_call 138;refine (check_any B b bs _ h).mono ?_)
 rintro e w1 ⟨rfl,h1,hb1,hk1⟩;obtain ⟨hB,v,hbk,hown,hne⟩:=h1
 have c0:w1.cell? ⟨b,0,none⟩=some (.pointer (some ⟨b,0,none⟩)):=by rw [Lib.cell_of_heap hbk];rfl
 have c1:w1.cell? ⟨b,1,none⟩=some v:=by rw [Lib.cell_of_heap hbk];rfl
 go_wp2_with (at_builtin;refine Lib.wpList_append_own_stringF _ rfl _ _ 135 9 rfl B 5 i0 underlying135 underlying9 hi hz0 hz1 hz2 _ _ _ rfl hown s rfl ?c3 ?c4 ?c5 ?_)
 case c3=>unfold maxLen;omega
 case c4=>omega
 case c5=>have:=hb1.size;omega
 intro v' w2 hown' hgrow _
 have hlt:b<w1.heap.size:=by
  rcases Nat.lt_or_ge b w1.heap.size with h'|h'
  ·exact h'
  ·simp [Array.getElem?_eq_none h'] at hbk
 have hb2:w2.heap[b]?=some (.cells #[.pointer (some ⟨b,0,none⟩),v] 137 (0,0)):=by
  rw [hgrow.block b hlt (fun e=>hne e.symm)];exact hbk
 have d0:w2.cell? ⟨b,0,none⟩=some (.pointer (some ⟨b,0,none⟩)):=by rw [Lib.cell_of_heap hb2];rfl
 have d1:w2.cell? ⟨b,1,none⟩=some v:=by rw [Lib.cell_of_heap hb2];rfl
 have f1:w2.frozen? ⟨b,1,none⟩=false:=Lib.frozen_of_heap hb2 1
 obtain ⟨ao,n',cap,rfl⟩:∃ ao n' cap,v'= .slice ao n' cap:=by
  rcases hown'.2 with ⟨hv,_⟩|⟨g,cap,cur,fz,hv,_⟩
  ·exact ⟨_,_,_,hv⟩
  ·exact ⟨_,_,_,hv⟩
 go_wp2
 go_ret2
 refine ⟨rfl,?_,?_,(hk1.grown hgrow (Lib.ownsRowF_kind hown)).setCell ⟨b,1,none⟩ rfl _⟩
 ·exact Lib.BuilderAtF.put (T:=137) (e:=5) hB hb2 (bs':=bs++Lib.strCells s) (by simpa [Lib.strCells_length] using hown') (by decide)
 ·exact (hb1.grown hgrow (by have:=hb1.size;omega) (fun k hk=>(hown.lt k hk).1)).setCell (p:=⟨b,1,none⟩) hB _
end Bld
namespace Img
open Go.RowKit Mem Go.Maps
def look:List (ByteArray×Nat)->ByteArray->Option Nat
 |[],_=>none
 |(s,k) :: t,x=>if s=x then some k else look t x
theorem look_snoc (a:List (ByteArray×Nat)) (q:ByteArray) (n:Nat) (x:ByteArray):look (a++[(q,n)]) x=(look a x).or (if q=x then some n else none):=by
 induction a with
 |nil=>rfl
 |cons p t ih=>
  obtain ⟨s,k⟩:=p;simp only [List.cons_append,look]
  split
  ·rfl
  ·exact ih
def poolStep (a:List UInt8×List (ByteArray×Nat)) (p:Phase):List UInt8×List (ByteArray×Nat):=
 if (look a.2 p.abbr).isSome then a else (a.1++(p.abbr.data.toList++[0]),a.2++[(p.abbr,a.1.length)])
def poolL (l:List Phase):List UInt8×List (ByteArray×Nat):=l.foldl poolStep ([],[])
theorem poolL_succ (l:List Phase) (k:Nat) (hk:k<l.length):poolL (l.take (k+1))=poolStep (poolL (l.take k)) l[k]:=by
 rw [List.take_succ_eq_append_getElem hk,poolL,poolL,List.foldl_append]
 rfl
theorem poolL_le (M:Nat) (l:List Phase) (hl:∀ p∈l,p.abbr.size<=M) (k:Nat):(poolL (l.take k)).1.length<=k*(M+1):=by
 induction k with
 |zero=>simp [poolL]
 |succ k ih=>
  by_cases hk:k<l.length
  ·rw [poolL_succ _ _ hk,poolStep]
   have:=hl l[k] (List.getElem_mem hk);rw [Nat.succ_mul]
   split
   ·omega
   ·simp only [List.length_append,len_toList,List.length_cons,List.length_nil]
    omega
  ·rw [List.take_of_length_le (by omega)] at ih ⊢
   rw [Nat.succ_mul];omega
def SM (a:List (ByteArray×Nat)) (D:DataW Unit):Prop:=
 IsMap D/\∀ s,has D (.string s.data.toList)=(look a s).isSome/\∀ k,look a s=some k->∀ z,D.atKey (.string s.data.toList) z= .lit (.int .i64 k)
theorem toList_inj {a b:ByteArray} (h:(Lit.string a.data.toList)= .string b.data.toList):a=b:=by
 injection h with h
 obtain ⟨⟨a⟩⟩:=a;obtain ⟨⟨b⟩⟩:=b
 simpa using h
theorem SM.nil_:SM [] (.map []):=⟨isMap_empty,fun s=>⟨by simp [has,look],fun k h=>by simp [look] at h⟩⟩
theorem SM.snoc {a:List (ByteArray×Nat)} {D:DataW Unit} {q:ByteArray} (h:SM a D) (n:Nat) (hn:(look a q).isSome=false):SM (a++[(q,n)]) (D.put (.string q.data.toList) (.lit (.int .i64 n))):=by
 refine ⟨h.1.put _ _,fun s=>?_⟩
 rw [look_snoc]
 by_cases e:q=s
 ·subst e
  have h0:look a q=none:=by simpa using hn
  rw [h0]
  refine ⟨by rw [has_put_same h.1 (show WideAt.IsKeyLit (.string _) from trivial)];simp,fun k hk z=>?_⟩
  simp at hk;rw [atKey_put_same h.1 (show WideAt.IsKeyLit (.string _) from trivial),hk]
 ·have hne:(Lit.string s.data.toList)≠.string q.data.toList:=fun e2=>e (toList_inj e2).symm
  obtain ⟨h1,h2⟩:=h.2 s;rw [if_neg e,has_put_other hne]
  refine ⟨by simpa using h1,fun k hk z=>?_⟩
  rw [atKey_put_other hne]
  exact h2 k (by simpa using hk) z
theorem strLaw:Keyed prog 9:=string_keyed underlying9
theorem Phase.cells_length (s:Phase):s.cells.length=3:=rfl
theorem phase_at {w:World} {B:Nat} {A:Option Addr} {ss:List Phase} (h:Reads w B 3 A ss.length (ss.flatMap Phase.cells)) {k:Nat} (hk:k<ss.length):
  ∃ ad,A=some ad/\ad.block<B/\w.cell? (ad.add (k*3))=some (.int .i64 ss[k].off)/\w.cell? ⟨(ad.add (k*3)).block,(ad.add (k*3)).off+1,none⟩=some (.int .i64 ss[k].save)/\w.cell? ⟨(ad.add (k*3)).block,(ad.add (k*3)).off+2,none⟩=some (.string ss[k].abbr):=by
 obtain ⟨ad,e,hb,hc⟩:=h.2 (by omega)
 have g:∀ j,j<3->(ss.flatMap Phase.cells)[k*3+j]?=ss[k].cells[j]?:=fun j hj=>by
  rw [flat_get Phase.cells 3 Phase.cells_length ss k j hj,List.getElem?_eq_getElem hk];rfl
 have ee:∀ j,0<j->(⟨(ad.add (k*3)).block,(ad.add (k*3)).off+j,none⟩:Addr)=ad.add (k*3+j):=fun j hj=>by
  rw [<-add_of_add,add_pos _ hj]
 refine ⟨ad,e,hb,?_⟩
 rw [ee 1 (by omega),ee 2 (by omega)]
 exact ⟨hc (k*3) _ (g 0 (by omega)),hc _ _ (g 1 (by omega)),hc _ _ (g 2 (by omega))⟩
theorem bld_alloc {T e:TypeId} {B b:Nat} {bs:List Value} {w:World} (h:Lib.IsBuilderF T e B b bs w) (o:Obj):Lib.IsBuilderF T e B b bs (w.alloc o):=by
 have key:∀ p,Lib.BuilderAtF T e B b p bs w->Lib.BuilderAtF T e B b p bs (w.alloc o):=by
  rintro p ⟨hB,v,hb,hown,hne⟩
  have hlt:b<w.heap.size:=(Array.getElem?_eq_some_iff.1 hb).1
  exact ⟨hB,v,(Below.heap_alloc w o b hlt).trans hb,hown.alloc o,hne⟩
 exact h.elim (fun x=> .inl (key _ x)) (fun x=> .inr (key _ x))
theorem bld_grown {H:Type} {T e:TypeId} {B b:Nat} {bs:List Value} {w w':World} {r n:Nat} {P:Program} {k:TypeId} {R:Value->Option (DataW H×List MemPlace)} {D:DataW H} (h:Lib.IsBuilderF T e B b bs w) (hg:w.grownBy w' (some r)) (hb:b≠r) (hm:w.ownsMap P k R r n D):Lib.IsBuilderF T e B b bs w':=by
 have key:∀ p,Lib.BuilderAtF T e B b p bs w->Lib.BuilderAtF T e B b p bs w':=by
  rintro p ⟨hB,v,hb',hown,hne⟩
  have hlt:b<w.heap.size:=(Array.getElem?_eq_some_iff.1 hb').1
  refine ⟨hB,v,(hg.block b hlt (by simpa using hb)).trans hb',hown.kept hg (.inr ?_),hne⟩
  intro he;obtain ⟨c,fz,hc⟩:=Lib.ownsRowF_kind hown r he;obtain ⟨es,clock,hb2,_⟩:=hm;rw [hb2] at hc
  cases hc
 exact h.elim (fun x=> .inl (key _ x)) (fun x=> .inr (key _ x))
theorem map_kept {H:Type} {w w':World} {r n b:Nat} {P:Program} {k e:TypeId} {R:Value->Option (DataW H×List MemPlace)} {D:DataW H} (hm:w.ownsMap P k R r n D) (ho:Lib.OthersKept e (some b) w w') (hb:r≠b):w'.ownsMap P k R r n D:=by
 obtain ⟨es,clock,hb2,F,hs,rfl⟩:=hm
 exact ⟨es,clock,ho r _ hb2 (by simpa using hb) (fun _ _ e=>by cases e),F,hs,rfl⟩
end Img
end
end Go.Proofs.YtmlejgdohcpmjaaGreatDoor
