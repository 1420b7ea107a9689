/-
  Contracts of the code that the law reaches, and plain laws. Conditions: as each says.
-/
import Derived.Test.YtmlejgdohcpmjaaGreatDoorV32
set_option linter.all false
set_option maxHeartbeats 40000000
set_option maxRecDepth 100000
namespace Go.Proofs.YtmlejgdohcpmjaaGreatDoor
open Lib (hid)
open Tryz
section
section
namespace Zon
open Go.RowKit Mem Civ Mom Img Plc Rul Ahd Trn Src Snd Att Rgt Abr Sch Cmq
def putPre (n:Int):List Int->List Int
 |[]=>[]
 |a :: l=>if n<=a then (if n<a then n :: a :: l else a :: l) else a :: putPre n l
def putDone (n:Int) (l:List Int):Bool:=l.any fun a=>decide (n<=a)
def putI (l:List Int) (n:Int):List Int:=putPre n l++(if putDone n l=true then [] else [n])
theorem putPre_snoc (n a:Int):∀ l:List Int,putPre n (l++[a])=if putDone n l=true then putPre n l++[a] else if n<=a/\n<a then putPre n l++[n]++[a] else putPre n l++[a]
 |[]=>by
  simp only [List.nil_append,putPre,putDone,List.any_nil,Bool.false_eq_true,if_false]
  by_cases h:n<=a
  ·by_cases h2:n<a
   ·rw [if_pos h,if_pos h2,if_pos ⟨h,h2⟩];rfl
   ·rw [if_pos h,if_neg h2,if_neg (fun h3=>h2 h3.2)]
  ·rw [if_neg h,if_neg (fun h3=>h h3.1)]
 |b :: l=>by
  have ih:=putPre_snoc n a l;rw [List.cons_append];unfold putPre
  by_cases h:n<=b
  ·rw [if_pos h,if_pos h]
   have:putDone n (b :: l)=true:=by simp [putDone,h]
   rw [if_pos this]
   split<;>simp
  ·rw [if_neg h,if_neg h,ih]
   have:putDone n (b :: l)=putDone n l:=by simp [putDone,h]
   rw [this]
   split
   ·simp
   ·split<;>simp
theorem putDone_snoc (n a:Int) (l:List Int):putDone n (l++[a])=(putDone n l || decide (n<=a)):=by simp [putDone]
theorem put_spec (n:Int):∀ {l:List Int},l.Pairwise (·<·)->(putI l n).Pairwise (·<·)/\∀ t,t∈putI l n↔t=n\/t∈l
 |[],_=>by simp [putI,putPre,putDone]
 |a :: l,h=>by
  rw [List.pairwise_cons] at h;obtain ⟨i1,i2⟩:=put_spec n h.2
  by_cases hle:n<=a
  ·have hd:putDone n (a :: l)=true:=by simp [putDone,hle]
   unfold putI putPre;rw [if_pos hd,List.append_nil,if_pos hle]
   by_cases hlt:n<a
   ·rw [if_pos hlt]
    refine ⟨List.pairwise_cons.2 ⟨fun b hb=>?_,List.pairwise_cons.2 h⟩,fun t=>List.mem_cons⟩
    rcases List.mem_cons.1 hb with e|e
    ·omega
    ·have:=h.1 b e;omega
   ·rw [if_neg hlt]
    have:n=a:=by omega
    subst this
    exact ⟨List.pairwise_cons.2 h,fun t=>by simp⟩
  ·have hd:putDone n (a :: l)=putDone n l:=by simp [putDone,hle]
   have e:putI (a :: l) n=a :: putI l n:=by
    unfold putI;rw [hd]
    conv=>lhs;unfold putPre
    rw [if_neg hle]
    rfl
   rw [e]
   refine ⟨List.pairwise_cons.2 ⟨fun b hb=>?_,i1⟩,fun t=>?_⟩
   ·rcases (i2 b).1 hb with e|e
    ·omega
    ·exact h.1 b e
   ·rw [List.mem_cons,i2,List.mem_cons]
    constructor
    ·rintro (q|q|q)
     ·exact .inr (.inl q)
     ·exact .inl q
     ·exact .inr (.inr q)
    ·rintro (q|q|q)
     ·exact .inr (.inl q)
     ·exact .inl q
     ·exact .inr (.inr q)
theorem put_len (n:Int):∀ l:List Int,(putI l n).length<=l.length+1
 |[]=>by simp [putI,putPre,putDone]
 |a :: l=>by
  have ih:=put_len n l
  by_cases hle:n<=a
  ·have hd:putDone n (a :: l)=true:=by simp [putDone,hle]
   unfold putI putPre;rw [if_pos hd,List.append_nil,if_pos hle]
   split<;>simp
  ·have hd:putDone n (a :: l)=putDone n l:=by simp [putDone,hle]
   have e:putI (a :: l) n=a :: putI l n:=by
    unfold putI;rw [hd]
    conv=>lhs;unfold putPre
    rw [if_neg hle]
    rfl
   rw [e];simp only [List.length_cons];omega
def putAll (l m:List Int):List Int:=m.foldl putI l
theorem all_spec:∀ (m:List Int) {l:List Int},l.Pairwise (·<·)->(putAll l m).Pairwise (·<·)/\∀ t,t∈putAll l m↔t∈l\/t∈m
 |[],l,h=>⟨h,fun t=>by simp [putAll]⟩
 |n :: m,l,h=>by
  obtain ⟨p1,p2⟩:=put_spec n h;obtain ⟨i1,i2⟩:=all_spec m p1
  refine ⟨i1,fun t=>?_⟩
  show t∈putAll (putI l n) m↔_
  rw [i2,p2,List.mem_cons]
  constructor
  ·rintro ((q|q)|q)
   ·exact .inr (.inl q)
   ·exact .inl q
   ·exact .inr (.inr q)
  ·rintro (q|q|q)
   ·exact .inl (.inr q)
   ·exact .inl (.inl q)
   ·exact .inr q
theorem all_snoc (l m:List Int) (n:Int):putAll l (m++[n])=putI (putAll l m) n:=by unfold putAll;rw [List.foldl_append];rfl
theorem all_append (l m k:List Int):putAll l (m++k)=putAll (putAll l m) k:=by unfold putAll;rw [List.foldl_append]
theorem all_len:∀ (m l:List Int),(putAll l m).length<=l.length+m.length
 |[],l=>by simp [putAll]
 |n :: m,l=>by
  have:=all_len m (putI l n);have:=put_len n l
  show (putAll (putI l n) m).length<=_
  simp only [List.length_cons];omega
def offsD (x:Table):List Int:=x.first.off :: (x.shifts.map (·.ph.off)++((if x.tail.length≠0 then [x.off] else [])++x.tail.map fun r=>x.off+r.save))
def possS (x:Table) (loc:Int) (out:List Int) (o:Int):List Int:=if offT x (loc - o)=o then putI out (loc - o) else out
def possD (x:Table) (loc:Int):List Int:=(offsD x).foldl (possS x loc) []
theorem poss_fold (x:Table) (loc:Int):∀ (os out:List Int),out.Pairwise (·<·)->(os.foldl (possS x loc) out).Pairwise (·<·)/\∀ t,t∈os.foldl (possS x loc) out↔t∈out\/(∃ o∈os,t=loc - o/\offT x t=o)
 |[],out,h=>⟨h,fun t=>by simp⟩
 |o :: os,out,h=>by
  have key:(possS x loc out o).Pairwise (·<·)/\∀ t,t∈possS x loc out o↔t∈out\/(t=loc - o/\offT x t=o):=by
   unfold possS
   split
   ·next hc=>
    obtain ⟨p1,p2⟩:=put_spec (loc - o) h
    refine ⟨p1,fun t=>?_⟩
    rw [p2]
    constructor
    ·rintro (q|q)
     ·exact .inr ⟨q,by rw [q];exact hc⟩
     ·exact .inl q
    ·rintro (q|q)
     ·exact .inr q
     ·exact .inl q.1
   ·next hc=>
    refine ⟨h,fun t=>⟨.inl,fun q=>q.elim id fun q=>absurd ?_ hc⟩⟩
    rw [<-q.1];exact q.2
  obtain ⟨i1,i2⟩:=poss_fold x loc os _ key.1
  refine ⟨i1,fun t=>?_⟩
  rw [List.foldl_cons,i2,key.2]
  constructor
  ·rintro ((q|q)|⟨o',q1,q2⟩)
   ·exact .inl q
   ·exact .inr ⟨o,List.mem_cons_self,q⟩
   ·exact .inr ⟨o',List.mem_cons_of_mem _ q1,q2⟩
  ·rintro (q|⟨o',q1,q2⟩)
   ·exact .inl (.inl q)
   ·rcases List.mem_cons.1 q1 with e|e
    ·subst e;exact .inl (.inr q2)
    ·exact .inr ⟨o',e,q2⟩
theorem offs_mem (x:Table) (t:Int):offT x t∈offsD x:=by
 unfold offsD;rw [List.mem_cons,List.mem_append,List.mem_append,List.mem_map,List.mem_map]
 rcases off_from x t with h|⟨s,hs,h⟩|⟨h0,h|⟨r,hm,h⟩⟩
 ·exact .inl h
 ·exact .inr (.inl ⟨s,hs,h.symm⟩)
 ·exact .inr (.inr (.inl (by rw [if_pos h0,h];simp)))
 ·exact .inr (.inr (.inr ⟨r,hm,h.symm⟩))
theorem poss_is (x:Table) (loc:Int):(possD x loc).Pairwise (·<·)/\∀ t,t∈possD x loc↔t+offT x t=loc:=by
 obtain ⟨h1,h2⟩:=poss_fold x loc (offsD x) [] List.Pairwise.nil
 refine ⟨h1,fun t=>?_⟩
 unfold possD;rw [h2]
 constructor
 ·rintro (q|⟨o,q1,q2,q3⟩)
  ·cases q
  ·omega
 ·intro h
  exact .inr ⟨_,offs_mem x t,by omega,rfl⟩
theorem around_poss {x:Table} {loc:Int} {out:List Int} {g:Shp} (h:AroundR x loc out g):out=possD x loc:=by
 obtain ⟨p1,p2⟩:=poss_is x loc;exact rise_same h.1 p1 fun t=>(h.2.1 t).trans (p2 t).symm
def yearsD (x:Table) (t:Int):List Int:=yearJ t :: yearJ x.till :: x.tail.map (·.lo)
def turnsD (x:Table) (y:Int):List Int:=(R11.yearR x.tail y).map (uniT x.tail x.off)
def aboutD (x:Table) (y:Int):List Int:=(List.range 9).flatMap fun (i:Nat)=>turnsD x (y - 4+(i:Int))
def secsD (x:Table) (t:Int):List Int:=putAll [] ((x.shifts.map (·.sec)++[x.till])++(yearsD x t).flatMap (aboutD x))
theorem secs_is (x:Table) (t:Int):(secsD x t).Pairwise (·<·)/\∀ a,a∈secsD x t↔a∈(x.shifts.map (·.sec)++[x.till])++(yearsD x t).flatMap (aboutD x):=by
 obtain ⟨h1,h2⟩:=all_spec ((x.shifts.map (·.sec)++[x.till])++(yearsD x t).flatMap (aboutD x)) (l:=[]) List.Pairwise.nil
 exact ⟨h1,fun a=>(h2 a).trans ⟨fun h=>h.elim (fun h=>by cases h) id,.inr⟩⟩
theorem turn_about {x:Table} (h:TailT x) {z t u:Int} (ht:TurnAt x z u) (h1:t - 86400<=u) (h2:u<=t+86400):yearJ t - 4<=z/\z<=yearJ t+4:=by
 have hn:=uni_near' h ht;obtain ⟨r,hm,v,hv,_⟩:=ht;have hz:=turn_last hv;have j1:=jan_mono (a:=1) (b:=z) hz.1;have j0:=jan_at;have j2:=jan_mono (a:=z) (b:=275760) hz.2;have hl:=yearD_last;have hlast:=year_in 100000000;rw [hl] at hlast;unfold yearJ
 rw [if_neg (by omega)]
 have g3:=jan_next z;have g4:=jan_next (z+1)
 rw [show z+1+1=z+2 from by omega] at g4
 by_cases hb:8640000000000<t
 ·rw [if_pos hb]
  refine ⟨?_,by omega⟩
  by_cases hc:275760 - 4<=z
  ·exact hc
  ·have g1:=jan_mono (a:=z+4) (b:=275760) (by omega)
   have g5:=jan_mono (a:=z) (b:=z+4) (by omega)
   omega
 ·rw [if_neg hb,if_neg (by omega)]
  have hy:=year_in (t / 86400)
  constructor
  ·by_cases hc:yearD (t / 86400) - 4<=z
   ·exact hc
   ·have g1:=jan_mono (a:=z+4) (b:=yearD (t / 86400)) (by omega)
    have g5:=jan_mono (a:=z) (b:=z+4) (by omega)
    omega
  ·by_cases hc:z<=yearD (t / 86400)+4
   ·exact hc
   ·have g2:=jan_mono (a:=yearD (t / 86400)+1) (b:=z) (by omega)
    omega
theorem sortT_mem {l:List Turn} {t:Turn}:t∈sortT l↔t∈l:=(sortT_perm l).mem_iff
theorem secs_near {x:Table} (hr:rightB x (tailB x)=true) {t T:Int} (hs:Sh x T) (h1:t - 86400<=T) (h2:T<=t+86400):T∈secsD x t:=by
 rw [(secs_is x t).2,List.mem_append,List.mem_append]
 rcases shift_cases hr hs with ⟨s,hm,e⟩|⟨h0,e|⟨_,z,hz⟩⟩
 ·exact .inl (.inl (List.mem_map.2 ⟨s,hm,e⟩))
 ·exact .inl (.inr (by rw [e];simp))
 ·refine .inr (List.mem_flatMap.2 ⟨yearJ t,by simp [yearsD],?_⟩)
  obtain ⟨q1,q2⟩:=turn_about (tailT_of hr h0) hz h1 h2;obtain ⟨r,hm,u,hu,e⟩:=hz;unfold aboutD
  refine List.mem_flatMap.2 ⟨(z - (yearJ t - 4)).toNat,List.mem_range.2 (by omega),?_⟩
  rw [show yearJ t - 4+((z - (yearJ t - 4)).toNat:Int)=z from by omega]
  unfold turnsD R11.yearR;exact List.mem_map.2 ⟨u,sortT_mem.2 (List.mem_filterMap.2 ⟨r,hm,hu⟩),e⟩
def gapOk (x:Table) (loc a:Int):Bool:=decide (a<=9000000100000) && (decide (-9000000100000<=a) && decide (GapAt x loc a))
def gapD (x:Table) (loc:Int):Shp:=match (secsD x loc).find? (gapOk x loc) with
 |some a=>⟨1,a,offT x (a - 1),offT x a⟩
 |none=>⟨9,0,0,0⟩
theorem gap_is {x:Table} (hr:rightB x (tailB x)=true) {loc T:Int} (h1: -9000000000000<=loc) (h2:loc<=9000000000000) (h:FirstGap x loc T):gapD x loc=⟨1,T,offT x (T - 1),offT x T⟩:=by
 have hin:=gap_in hr h.1
 have hmem:=secs_near hr (t:=loc) h.1.sh (by omega) (by omega)
 have hok:gapOk x loc T=true:=by
  unfold gapOk
  rw [decide_eq_true (by omega:T<=9000000100000),decide_eq_true (by omega: -9000000100000<=T),decide_eq_true h.1];rfl
 unfold gapD
 cases hf:(secsD x loc).find? (gapOk x loc) with
 |none=>exact absurd hok (by simpa using List.find?_eq_none.1 hf T hmem)
 |some a=>
  have ha:=List.find?_some hf
  have hga:GapAt x loc a:=by
   unfold gapOk at ha;simp only [Bool.and_eq_true] at ha;exact of_decide_eq_true ha.2.2
  obtain ⟨l1,l2,e,hno⟩:=(List.find?_eq_some_iff_append.1 hf).2
  have hsrt:=(secs_is x loc).1;rw [e] at hsrt hmem
  have:a=T:=by
   rcases List.mem_append.1 hmem with q|q
   ·have:=hno T q
    rw [hok] at this
    cases this
   ·rcases List.mem_cons.1 q with q|q
    ·exact q.symm
    ·have h9:=(List.pairwise_cons.1 (List.pairwise_append.1 hsrt).2.1).1 T q
     exact absurd hga (h.2 a h9)
  rw [this]
def shapeD (x:Table) (loc:Int):Shp:=if (possD x loc).length=1 then noShp else if 1<(possD x loc).length then ⟨2,0,0,0⟩ else gapD x loc
def shapeP (out:List Int) (g:Shp):Shp:=if out.length=0 then g else if out.length=1 then noShp else ⟨2,0,0,0⟩
theorem shape_is {x:Table} (hr:rightB x (tailB x)=true) {loc:Int} (h1: -9000000000000<=loc) (h2:loc<=9000000000000) {out:List Int} {g:Shp} (h:AroundR x loc out g):shapeP out g=shapeD x loc:=by
 have e:=around_poss h;subst e;unfold shapeP shapeD
 by_cases h0:(possD x loc).length=0
 ·rw [if_pos h0,if_neg (by omega),if_neg (by omega)]
  rcases h.2.2 with ⟨_,hn⟩|⟨T,hT,e⟩
  ·obtain ⟨T,hT⟩:=gap_there hr (loc:=loc) fun t ht=>by
    have:=(h.2.1 t).2 ht;rw [List.length_eq_zero_iff.1 h0] at this
    cases this
   exact absurd hT (hn T)
  ·rw [e,gap_is hr h1 h2 hT]
 ·rw [if_neg h0]
  by_cases h1:(possD x loc).length=1
  ·rw [if_pos h1,if_pos h1]
  ·rw [if_neg h1,if_neg h1,if_pos (by omega)]
end Zon
end
end
section
section
namespace Zon
open Go.RowKit Mem Civ Mom Img Plc Rul Ahd Trn Src Snd Att Rgt Abr Sch Cmq Rng
def okT (x:Table) (loc:Int):Bool:=rightB x (tailB x) && (decide (-9000000000000<=loc) && decide (loc<=9000000000000))
def toldL (x:Table) (loc:Int):List Int:=if okT x loc=true then possD x loc else []
def toldS (x:Table) (loc:Int):Shp:=if okT x loc=true then shapeD x loc else noShp
def ToldP (x:Table) (loc:Int) (w:World) (e:Ending) (w':World):Prop:=∃ (A':Option Addr) (c':Nat),
 e= .returned (.tuple #[.slice A' (toldL x loc).length c',.agg #[.int .i64 (toldS x loc).kind,.int .i64 (toldS x loc).at_,.int .i64 (toldS x loc).ahead,.int .i64 (toldS x loc).behind],.bool (okT x loc)])/\
 w'.ownsRow w.heap.size 2 1 (.slice A' (toldL x loc).length c') (toldL x loc).length (ints (toldL x loc))/\Below w.heap.size w w'
theorem told_results {w:World} {R0:Nat} {b:Bool} {v a0 a1 a2 a3:Value} (h:Blk w R0 35 #[a0,a1,a2,a3]) (tmps:Array Value) (ht:tmps[5]?=some (.pointer (some ⟨R0,0,none⟩))) (h4:tmps[4]?=some v) (h6:tmps[6]?=some (.bool b)):(results Tryz.f26 tmps).run prog w= .ok (.tuple #[v,.agg #[a0,a1,a2,a3],.bool b]) w:=by
 have hc:=h.cell;simp [results,Tryz.results26,go_sem,hc,ht,h4,h6]
structure Tw (w:World) (v:Value) (l:List Int) (g:Shp) (W:World):Prop where
 blk:Blk W (w.heap.size+1) 35 #[.int .i64 g.kind,.int .i64 g.at_,.int .i64 g.ahead,.int .i64 g.behind]
 own:W.ownsRow (w.heap.size+2) 2 1 v l.length (ints l)
 bel:Below w.heap.size w W
theorem own_low {W:World} {B:Nat} {v:Value} {n:Nat} {xs:List Value} {p:Addr} (ho:W.ownsRow B 2 1 v n xs) (hp:p.block<B) (u:Value):(W.setCell p u).ownsRow B 2 1 v n xs:=ho.kept (gr_set _ p u) (by
 cases hb:v.ownBlock with
 |none=>exact .inl rfl
 |some b=>exact .inr fun e=>by injection e with e;have:=(ho.lt b hb).1;omega)
theorem Tw.set {w:World} {v:Value} {l:List Int} {g:Shp} {W:World} (k:Tw w v l g W) (a b c d:Int):Tw w v l ⟨a,b,c,d⟩ ((((W.setCell ⟨w.heap.size+1,0,none⟩ (.int .i64 a)).setCell ⟨w.heap.size+1,1,none⟩ (.int .i64 b)).setCell ⟨w.heap.size+1,2,none⟩ (.int .i64 c)).setCell ⟨w.heap.size+1,3,none⟩ (.int .i64 d)):=by
 have hg:=(((k.blk.set_ 0 (.int .i64 a)).set_ 1 (.int .i64 b)).set_ 2 (.int .i64 c)).set_ 3 (.int .i64 d)
 exact ⟨by simpa using hg,own_low (own_low (own_low (own_low k.own (by simp) _) (by simp) _) (by simp) _) (by simp) _,(((k.bel.setCell (by simp) _).setCell (by simp) _).setCell (by simp) _).setCell (by simp) _⟩
theorem Tw.drew {w:World} {v:Value} {l:List Int} {g:Shp} {W:World} (k:Tw w v l g W):Tw w v l g W.drew:=⟨k.blk.drew,k.own.drew,k.bel.drew⟩
theorem told_end {x:Table} {loc:Int} {w W:World} {tmps:Array Value} {A':Option Addr} {c':Nat} {l:List Int} {g:Shp} {b:Bool} (k:Tw w (.slice A' l.length c') l g W) (ht:tmps[5]?=some (.pointer (some ⟨w.heap.size+1,0,none⟩))) (h4:tmps[4]?=some (.slice A' l.length c')) (h6:tmps[6]?=some (.bool b))
  (hl:toldL x loc=l) (hg:toldS x loc=g) (hk:okT x loc=b):bodyPost prog Tryz.f26 (ToldP x loc w) .ret { tmps:=tmps,defers:=[] } W:=by
 refine bodyPost_ret (told_results k.blk tmps ht h4 h6) rfl ?_
 exact ⟨A',c',by rw [hl,hg,hk],by rw [hl];exact own_base k.own (by omega),k.bel⟩
theorem Tw.below {w:World} {v:Value} {l:List Int} {g:Shp} {W W':World} (k:Tw w v l g W) (hb:Below W.heap.size W W') (_:w.heap.size+1<W.heap.size):Tw w v l g W':=
 ⟨k.blk.below hb k.blk.lt,k.own.kept (gr_of_below hb) (by cases v.ownBlock<;>simp),k.bel.trans (hb.mono k.bel.size)⟩
theorem told_any (x:Table) (A A2:Option Addr) (c c2:Nat) (m loc:Int) (w:World) (h:TabOk x A A2 w) (hm:w.cell? ⟨0,0,none⟩=some (.int .i64 m)) (ht: -9223372036854775808<=x.till/\x.till<=9223372036854775807)
  (hs:∀ s∈x.shifts,-9223372036854775808<=s.sec/\s.sec<=9223372036854775807):Calls prog 26 #[.agg (tabCells x A c A2 c2),.int .i64 loc] w (ToldP x loc w):=by
 have hR:=fun z (hb:Below w.heap.size w z)=>right_t x A A2 c c2 m z (h.below hb) (cell_later hb hm);obtain ⟨b0,b1,hbw,hsz⟩:=box2 w 27 35 (tabCells x A c A2 c2) #[.int .i64 0,.int .i64 0,.int .i64 0,.int .i64 0]
 have hA:okT x loc=true->∀ z,Below w.heap.size w z->Calls prog 46 #[.agg (tabCells x A c A2 c2),.int .i64 loc] z fun e w'=>∃ (A':Option Addr) (c':Nat) (g:Shp),e= .returned (.tuple #[.slice A' (possD x loc).length c',.agg #[.int .i64 g.kind,.int .i64 g.at_,.int .i64 g.ahead,.int .i64 g.behind]])/\
   w'.ownsRow z.heap.size 2 1 (.slice A' (possD x loc).length c') (possD x loc).length (ints (possD x loc))/\shapeP (possD x loc) g=shapeD x loc/\Below z.heap.size z w':=fun hok z hb=>by
  unfold okT at hok;simp only [Bool.and_eq_true,decide_eq_true_eq] at hok;obtain ⟨hr,hl1,hl2⟩:=hok
  refine (around_any x A A2 c c2 m loc z ⟨h.below hb,cell_later hb hm,ht,hs,hr⟩ (by omega) (by omega)).mono ?_
  rintro e w' ⟨A',c',l,g,rfl,ho,hres,hbz⟩;have e:=around_poss hres;have e2:=shape_is hr hl1 hl2 hres;subst e;exact ⟨A',c',g,rfl,ho,e2,hbz⟩
 have HR:=hid hR;have HA:=hid hA;have HB:=hid hbw;simp only [tabCells] at*
 obtain ⟨W,hW⟩:∃ W,(w.alloc (.cells #[.string x.name,.int .i64 x.first.off,.int .i64 x.first.save,.string x.first.abbr,.slice A x.shifts.length c,.int .i64 x.till,.slice A2 x.tail.length c2,.int .i64 x.off,.string x.format] 27)).alloc (.cells #[.int .i64 0,.int .i64 0,.int .i64 0,.int .i64 0] 35)=W:=⟨_,rfl⟩
 rw [hW] at b0 b1 hsz HB;have k0:=b0.cell;have k1:=b1.cell;have f1:=b1.frozen;have H0:=hid b0;have H1:=hid b1;clear h hm ht hs hR hbw hA b0 b1;have HT:Hid (Tw w (.slice none 0 0) [] ⟨0,0,0,0⟩ W):=⟨H1.out,World.ownsRow_nil _ _ _ _,HB.out⟩
 by_cases h1:loc< -9000000000000
 ·have hok:okT x loc=false:=by unfold okT;rw [decide_eq_false (by omega:¬ -9000000000000<=loc)];simp
  have h1b:decide (loc< -9000000000000)=true:=decide_eq_true h1;go_enter func26,ntmps26;go_wp2
  exact told_end ((HT.out.set 0 0 0 0)) rfl rfl rfl (by unfold toldL;rw [hok]) (by unfold toldS;rw [hok]) hok
 ·have h1b:decide (loc< -9000000000000)=false:=decide_eq_false h1
  by_cases h2:loc > 9000000000000
  ·have hok:okT x loc=false:=by unfold okT;rw [decide_eq_false (by omega:¬ loc<=9000000000000)];simp
   have h2b:decide (loc > 9000000000000)=true:=decide_eq_true h2;go_enter func26,ntmps26;go_wp2
   exact told_end ((HT.out.set 0 0 0 0)) rfl rfl rfl (by unfold toldL;rw [hok]) (by unfold toldS;rw [hok]) hok
  ·have h2b:decide (loc > 9000000000000)=false:=decide_eq_false h2
   have hoe:okT x loc=rightB x (tailB x):=by unfold okT;rw [decide_eq_true (by omega: -9000000000000<=loc),decide_eq_true (by omega:loc<=9000000000000)];simp
   have hRw:=HR.out W HB.out
   cases hr:rightB x (tailB x) with
   |false=>
    rw [hr] at hRw hoe;have HRw:=hid hRw;have Hok:=hid hoe;clear hRw hoe hr HA HR;go_enter func26,ntmps26
    go_wp2_with (go_at_call 31;refine HRw.out.mono ?_;rintro e w2 ⟨rfl,hb⟩;have HT2:=hid (HT.out.below hb hsz);have k2:=HT2.out.blk.cell;have f2:=HT2.out.blk.frozen;clear hb k0 k1 f1)
    have hok:=Hok.out
    exact told_end ((HT2.out.set 0 0 0 0)) rfl rfl rfl (by unfold toldL;rw [hok]) (by unfold toldS;rw [hok]) hok
   |true=>
    rw [hr] at hRw hoe;have HRw:=hid hRw;have Hok:=hid hoe;have hAr:=HA.out hoe;have HAr:=hid hAr
    have hTL:toldL x loc=possD x loc:=by unfold toldL;rw [hoe];simp
    have hTS:toldS x loc=shapeD x loc:=by unfold toldS;rw [hoe];simp
    obtain ⟨N,hN⟩:∃ N,(possD x loc).length=N:=⟨_,rfl⟩;obtain ⟨L,hL⟩:∃ L,possD x loc=L:=⟨_,rfl⟩;rw [hL] at HAr hTL hN
    have hsp:∀ g,shapeP L g=if N=0 then g else if N=1 then noShp else ⟨2,0,0,0⟩:=fun g=>by unfold shapeP;rw [hN]
    rw [hN] at HAr;have HTL:=hid hTL;have HTS:=hid hTS;have HSp:=hid hsp;have HN:=hid hN;clear hRw hoe hr HA HR hAr hTL hTS hL hsp hN
    rcases (by omega:N=0\/N=1\/2<=N) with hq|hq|hq
    ·subst hq
     go_enter func26,ntmps26
     go_wp2_with (first
      |(go_at_call 31;refine HRw.out.mono ?_;rintro e w2 ⟨rfl,hb⟩;have HT2:=hid (HT.out.below hb hsz);have g0:=fun i=>(H0.out.below hb H0.out.lt).cell i;have HB2:=hid hb;clear hb k0 k1 f1)
      |(go_at_call 46;refine (HAr.out _ HT2.out.bel).mono ?_;rintro e w3 ⟨A',c',g,rfl,ho,hres,hb⟩;have HO:=hid ho;have HRs:=hid hres;have HT3:=hid (HT2.out.below hb (by have:=HB2.out.size;omega));have k4:=fun o i=>(HT3.out.blk.alloc o).cell i;have f4:=fun o i=>(HT3.out.blk.alloc o).frozen i;have k5:=fun i=>(Blk.new w3 35 #[.int .i64 g.kind,.int .i64 g.at_,.int .i64 g.ahead,.int .i64 g.behind]).cell i;clear hb ho hres))
     go_region
     go_wp2;have hL0:L=[]:=List.length_eq_zero_iff.1 HN.out
     have ht4:Tw w (.slice none 0 0) [] ⟨0,0,0,0⟩ (w3.alloc (.cells #[.int .i64 g.kind,.int .i64 g.at_,.int .i64 g.ahead,.int .i64 g.behind] 35)):=
      ⟨HT3.out.blk.alloc _,World.ownsRow_nil _ _ _ _,HT3.out.bel.alloc (by have:=HT3.out.bel.size;omega) _⟩
     exact told_end (ht4.set g.kind g.at_ g.ahead g.behind).drew rfl rfl rfl (HTL.out.trans hL0) (by rw [HTS.out,<-HRs.out,HSp.out];simp) Hok.out
    ·subst hq
     go_enter func26,ntmps26
     go_wp2_with (first
      |(go_at_call 31;refine HRw.out.mono ?_;rintro e w2 ⟨rfl,hb⟩;have HT2:=hid (HT.out.below hb hsz);have g0:=fun i=>(H0.out.below hb H0.out.lt).cell i;have HB2:=hid hb;clear hb k0 k1 f1)
      |(go_at_call 46;refine (HAr.out _ HT2.out.bel).mono ?_;rintro e w3 ⟨A',c',g,rfl,ho,hres,hb⟩;have HO:=hid ho;have HRs:=hid hres;have HT3:=hid (HT2.out.below hb (by have:=HB2.out.size;omega));have k4:=fun o i=>(HT3.out.blk.alloc o).cell i;have f4:=fun o i=>(HT3.out.blk.alloc o).frozen i;have k5:=fun i=>(Blk.new w3 35 #[.int .i64 g.kind,.int .i64 g.at_,.int .i64 g.ahead,.int .i64 g.behind]).cell i;clear hb ho hres))
     have hz2:w.heap.size+2<=w2.heap.size:=by have:=HB2.out.size;omega
     have ht4:Tw w (.slice A' L.length c') L ⟨0,0,0,0⟩ (w3.alloc (.cells #[.int .i64 g.kind,.int .i64 g.at_,.int .i64 g.ahead,.int .i64 g.behind] 35)):=
      ⟨HT3.out.blk.alloc _,by rw [HN.out];exact own_base (HO.out.alloc _) hz2,HT3.out.bel.alloc (by have:=HT3.out.bel.size;omega) _⟩
     exact told_end (ht4.set 0 0 0 0) rfl (by rw [HN.out];rfl) rfl HTL.out (by rw [HTS.out,<-HRs.out,HSp.out];rfl) Hok.out
    ·have hq0:(((N:Nat):Int) == 0)=false:=beq_eq_false_iff_ne.2 (by omega)
     have hq1:(((N:Nat):Int) == 1)=false:=beq_eq_false_iff_ne.2 (by omega)
     have Hq:=hid hq;clear hq;go_enter func26,ntmps26
     go_wp2_with (first
      |(go_at_call 31;refine HRw.out.mono ?_;rintro e w2 ⟨rfl,hb⟩;have HT2:=hid (HT.out.below hb hsz);have g0:=fun i=>(H0.out.below hb H0.out.lt).cell i;have HB2:=hid hb;clear hb k0 k1 f1)
      |(go_at_call 46;refine (HAr.out _ HT2.out.bel).mono ?_;rintro e w3 ⟨A',c',g,rfl,ho,hres,hb⟩;have HO:=hid ho;have HRs:=hid hres;have HT3:=hid (HT2.out.below hb (by have:=HB2.out.size;omega));have k4:=fun o i=>(HT3.out.blk.alloc o).cell i;have f4:=fun o i=>(HT3.out.blk.alloc o).frozen i;have k5:=fun i=>(Blk.new w3 35 #[.int .i64 g.kind,.int .i64 g.at_,.int .i64 g.ahead,.int .i64 g.behind]).cell i;clear hb ho hres))
     have hz2:w.heap.size+2<=w2.heap.size:=by have:=HB2.out.size;omega
     have ht4:Tw w (.slice A' L.length c') L ⟨0,0,0,0⟩ (w3.alloc (.cells #[.int .i64 g.kind,.int .i64 g.at_,.int .i64 g.ahead,.int .i64 g.behind] 35)):=
      ⟨HT3.out.blk.alloc _,by rw [HN.out];exact own_base (HO.out.alloc _) hz2,HT3.out.bel.alloc (by have:=HT3.out.bel.size;omega) _⟩
     exact told_end (ht4.set 2 0 0 0) rfl (by rw [HN.out];rfl) rfl HTL.out (by rw [HTS.out,<-HRs.out,HSp.out];rw [if_neg (by have:=Hq.out;omega),if_neg (by have:=Hq.out;omega)]) Hok.out
theorem possible_any (x:Table) (A A2:Option Addr) (c c2:Nat) (m loc:Int) (w:World) (h:TabOk x A A2 w) (hm:w.cell? ⟨0,0,none⟩=some (.int .i64 m)) (ht: -9223372036854775808<=x.till/\x.till<=9223372036854775807)
  (hs:∀ s∈x.shifts,-9223372036854775808<=s.sec/\s.sec<=9223372036854775807):Calls prog 11 #[.agg (tabCells x A c A2 c2),.int .i64 loc] w fun e w'=>∃ (A':Option Addr) (c':Nat),e= .returned (.slice A' (toldL x loc).length c')/\
   w'.ownsRow w.heap.size 2 1 (.slice A' (toldL x loc).length c') (toldL x loc).length (ints (toldL x loc))/\Below w.heap.size w w':=by
 have hT:=fun z (hb:Below w.heap.size w z)=>told_any x A A2 c c2 m loc z (h.below hb) (cell_later hb hm) ht hs;obtain ⟨b0,hbw,hsz⟩:=box1 w 27 (tabCells x A c A2 c2);simp only [tabCells] at*
 obtain ⟨W,hW⟩:∃ W,w.alloc (.cells #[.string x.name,.int .i64 x.first.off,.int .i64 x.first.save,.string x.first.abbr,.slice A x.shifts.length c,.int .i64 x.till,.slice A2 x.tail.length c2,.int .i64 x.off,.string x.format] 27)=W:=⟨_,rfl⟩
 rw [hW] at b0 hbw hsz;have k0:=b0.cell;have HT:=hid (hT W hbw);have HB:=hid hbw;clear h hm ht hs hT hbw b0;go_enter func11,ntmps11
 go_wp2_with (go_at_call 26;refine HT.out.mono ?_;rintro e w2 ⟨A',c',rfl,ho,hb⟩;have HO:=hid ho;have HB2:=hid hb;clear ho hb)
 go_ret
 have hz2:w.heap.size<=w2.heap.size:=by have:=HB2.out.size;omega
 exact ⟨A',c',rfl,own_base (HO.out.alloc _) (by omega),((HB.out.trans (HB2.out.mono HB.out.size)).alloc hz2 _)⟩
theorem zaround_results {w:World} {R0:Nat} {b:Bool} {a0 a1 a2 a3:Value} (h:Blk w R0 35 #[a0,a1,a2,a3]) (tmps:Array Value) (ht:tmps[4]?=some (.pointer (some ⟨R0,0,none⟩))) (h5:tmps[5]?=some (.bool b)):(results Tryz.f15 tmps).run prog w= .ok (.tuple #[.agg #[a0,a1,a2,a3],.bool b]) w:=by
 have hc:=h.cell;simp [results,Tryz.results15,go_sem,hc,ht,h5]
theorem zaround_any (x:Table) (A A2:Option Addr) (c c2:Nat) (m loc:Int) (w:World) (h:TabOk x A A2 w) (hm:w.cell? ⟨0,0,none⟩=some (.int .i64 m)) (ht: -9223372036854775808<=x.till/\x.till<=9223372036854775807)
  (hs:∀ s∈x.shifts,-9223372036854775808<=s.sec/\s.sec<=9223372036854775807):Calls prog 15 #[.agg (tabCells x A c A2 c2),.int .i64 loc] w fun e w'=>e= .returned (.tuple #[.agg #[.int .i64 (toldS x loc).kind,.int .i64 (toldS x loc).at_,.int .i64 (toldS x loc).ahead,.int .i64 (toldS x loc).behind],.bool (okT x loc)])/\Below w.heap.size w w':=by
 have hT:=fun z (hb:Below w.heap.size w z)=>told_any x A A2 c c2 m loc z (h.below hb) (cell_later hb hm) ht hs;obtain ⟨b0,b1,hbw,hsz⟩:=box2 w 27 35 (tabCells x A c A2 c2) #[.int .i64 0,.int .i64 0,.int .i64 0,.int .i64 0];simp only [tabCells] at*
 obtain ⟨W,hW⟩:∃ W,(w.alloc (.cells #[.string x.name,.int .i64 x.first.off,.int .i64 x.first.save,.string x.first.abbr,.slice A x.shifts.length c,.int .i64 x.till,.slice A2 x.tail.length c2,.int .i64 x.off,.string x.format] 27)).alloc (.cells #[.int .i64 0,.int .i64 0,.int .i64 0,.int .i64 0] 35)=W:=⟨_,rfl⟩
 rw [hW] at b0 b1 hbw hsz;have k0:=b0.cell;have HT:=hid (hT W hbw);have HB:=hid hbw;have H1:=hid b1;clear h hm ht hs hT hbw b0 b1;obtain ⟨⟨g0,g1,g2,g3⟩,hG⟩:∃ G,toldS x loc=G:=⟨_,rfl⟩;unfold ToldP at HT;rw [hG] at HT ⊢;clear hG;simp only at HT ⊢;go_enter func15,ntmps15
 go_wp2_with (go_at_call 26;refine HT.out.mono ?_;rintro e w2 ⟨A',c',rfl,_,hb⟩;have HB2:=hid hb;have k4:=fun o i=>((H1.out.below hb H1.out.lt).alloc o).cell i;have f4:=fun o i=>((H1.out.below hb H1.out.lt).alloc o).frozen i;have k5:=fun i=>(Blk.new w2 35 #[.int .i64 g0,.int .i64 g1,.int .i64 g2,.int .i64 g3]).cell i;clear hb)
 have hz2:w.heap.size<=w2.heap.size:=by have:=HB2.out.size;omega
 have hf:=((((H1.out.below HB2.out H1.out.lt).alloc (.cells #[.int .i64 g0,.int .i64 g1,.int .i64 g2,.int .i64 g3] 35)).set_ 0 (.int .i64 g0)).set_ 1 (.int .i64 g1)).set_ 2 (.int .i64 g2) |>.set_ 3 (.int .i64 g3)
 simp only [List.setIfInBounds_toArray,List.set_cons_succ,List.set_cons_zero] at hf
 have hbe:=(((((HB.out.trans (HB2.out.mono HB.out.size)).alloc hz2 (.cells #[.int .i64 g0,.int .i64 g1,.int .i64 g2,.int .i64 g3] 35)).setCell (p:=⟨w.heap.size+1,0,none⟩) (by simp) (.int .i64 g0)).setCell (p:=⟨w.heap.size+1,1,none⟩) (by simp) (.int .i64 g1)).setCell (p:=⟨w.heap.size+1,2,none⟩) (by simp) (.int .i64 g2)).setCell (p:=⟨w.heap.size+1,3,none⟩) (by simp) (.int .i64 g3)
 refine bodyPost_ret (zaround_results hf _ rfl rfl) rfl ⟨rfl,hbe⟩
def chooseL (L:List Int) (s:Shp) (loc how:Int):Int×Int:=
 if L.length=1 then (L.headD 0,0) else if 1<L.length then (if how=4 then (0,10) else if how=3 then (L.getLastD 0,0) else (L.headD 0,0)) else if how=4 then (0,9) else if how=2 then (loc - s.behind,0) else (loc - s.ahead,0)
def chooseP (x:Table) (loc how:Int):Int×Int:=if okT x loc=true then (if how<1\/how > 4 then (0,1) else chooseL (possD x loc) (shapeD x loc) loc how) else (0,1)
theorem shape_bd {x:Table} (hr:rightB x (tailB x)=true) (loc:Int): -86400<(shapeD x loc).ahead/\(shapeD x loc).ahead<86400/\-86400<(shapeD x loc).behind/\(shapeD x loc).behind<86400:=by
 unfold shapeD
 split
 ·exact ⟨by decide,by decide,by decide,by decide⟩
 ·split
  ·exact ⟨by decide,by decide,by decide,by decide⟩
  ·unfold gapD
   split
   ·next a _=>
    have h1:=off_bd hr (a - 1);have h2:=off_bd hr a;exact ⟨h1.1,h1.2,h2.1,h2.2⟩
   ·exact ⟨by decide,by decide,by decide,by decide⟩
theorem own_int_cell {W:World} {B:Nat} {A:Option Addr} {c k:Nat} {L:List Int} (h:W.ownsRow B 2 1 (.slice A L.length c) L.length (ints L)) (hk:k<L.length):∃ b,A=some ⟨b,0,none⟩/\W.cell? ⟨b,k,none⟩=some (.int .i64 L[k]):=by
 obtain ⟨b,cap,e,h1,h2⟩:=h.form (by omega)
 injection e with e _ _
 subst e
 refine ⟨b,rfl,?_⟩
 have:=h.cells rfl k (.int .i64 L[k]) (by unfold ints;rw [List.getElem?_map,List.getElem?_eq_getElem hk];rfl)
 have e1:(⟨b,0,none⟩:Addr).add k=⟨b,k,none⟩:=by unfold Addr.add;split<;>simp_all
 rwa [e1] at this
theorem choose_any (x:Table) (A A2:Option Addr) (c c2:Nat) (m loc how:Int) (w:World) (h:TabOk x A A2 w) (hm:w.cell? ⟨0,0,none⟩=some (.int .i64 m)) (ht: -9223372036854775808<=x.till/\x.till<=9223372036854775807)
  (hs:∀ s∈x.shifts,-9223372036854775808<=s.sec/\s.sec<=9223372036854775807):Calls prog 17 #[.agg (tabCells x A c A2 c2),.int .i64 loc,.int .i64 how] w fun e w'=>e= .returned (.tuple #[.int .i64 (chooseP x loc how).1,.int .i64 (chooseP x loc how).2])/\Below w.heap.size w w':=by
 have hT:=fun z (hb:Below w.heap.size w z)=>told_any x A A2 c c2 m loc z (h.below hb) (cell_later hb hm) ht hs;obtain ⟨b0,hbw,hsz⟩:=box1 w 27 (tabCells x A c A2 c2);simp only [tabCells] at*
 obtain ⟨W,hW⟩:∃ W,w.alloc (.cells #[.string x.name,.int .i64 x.first.off,.int .i64 x.first.save,.string x.first.abbr,.slice A x.shifts.length c,.int .i64 x.till,.slice A2 x.tail.length c2,.int .i64 x.off,.string x.format] 27)=W:=⟨_,rfl⟩
 rw [hW] at b0 hbw hsz;have k0:=b0.cell;have HT:=hid (hT W hbw);have HB:=hid hbw;clear h hm ht hs hT hbw b0;unfold ToldP at HT
 have HF:∀ w2,Below W.heap.size W w2->∀ o,Below w.heap.size w (w2.alloc o):=fun w2 hb o=>(HB.out.trans (hb.mono HB.out.size)).alloc (by have:=hb.size;omega) o
 have HF:=hid HF
 cases hok:okT x loc with
 |false=>
  have hC:chooseP x loc how=(0,1):=by unfold chooseP;rw [hok];rfl
  have HC:=hid hC;rw [hok] at HT;obtain ⟨⟨g0,g1,g2,g3⟩,hG⟩:∃ G,toldS x loc=G:=⟨_,rfl⟩;rw [hG] at HT;obtain ⟨L,hL⟩:∃ L,toldL x loc=L:=⟨_,rfl⟩;rw [hL] at HT;simp only at HT;clear hG hC hok hL;go_enter func17,ntmps17
  go_wp2_with (go_at_call 26;refine HT.out.mono ?_;rintro e w2 ⟨A',c',rfl,ho,hb⟩;have HB2:=hid hb;clear ho hb)
  go_ret2
  rw [HC.out];exact ⟨rfl,HF.out _ HB2.out _⟩
 |true=>
  have hl: -9000000000000<=loc/\loc<=9000000000000:=by unfold okT at hok;simp only [Bool.and_eq_true,decide_eq_true_eq] at hok;exact hok.2
  have hr:rightB x (tailB x)=true:=by unfold okT at hok;simp only [Bool.and_eq_true] at hok;exact hok.1
  have hsb:=shape_bd hr loc;rw [hok] at HT
  have hTL:toldL x loc=possD x loc:=by unfold toldL;rw [hok];simp
  have hTS:toldS x loc=shapeD x loc:=by unfold toldS;rw [hok];simp
  have hC:chooseP x loc how=if how<1\/how > 4 then (0,1) else chooseL (possD x loc) (shapeD x loc) loc how:=by unfold chooseP;rw [hok];simp
  rw [hTL,hTS] at HT;clear hTL hTS hok hr;generalize possD x loc=L at*;generalize shapeD x loc=S at*;obtain ⟨g0,g1,g2,g3⟩:=S;simp only at HT hsb;have HC:=hid hC;clear hC
  by_cases h1:how<1
  ·have h1b:decide (how<1)=true:=decide_eq_true h1
   go_enter func17,ntmps17
   go_wp2_with (go_at_call 26;refine HT.out.mono ?_;rintro e w2 ⟨A',c',rfl,ho,hb⟩;have HB2:=hid hb;clear ho hb)
   go_ret2
   rw [HC.out,if_pos (.inl h1)];exact ⟨rfl,HF.out _ HB2.out _⟩
  ·have h1b:decide (how<1)=false:=decide_eq_false h1
   by_cases h2:how > 4
   ·have h2b:decide (how > 4)=true:=decide_eq_true h2
    go_enter func17,ntmps17
    go_wp2_with (go_at_call 26;refine HT.out.mono ?_;rintro e w2 ⟨A',c',rfl,ho,hb⟩;have HB2:=hid hb;clear ho hb)
    go_ret2
    rw [HC.out,if_pos (.inr h2)];exact ⟨rfl,HF.out _ HB2.out _⟩
   ·have h2b:decide (how > 4)=false:=decide_eq_false h2
    have hC2:=HC.out
    rw [if_neg (by omega)] at hC2
    have hhow:how=1\/how=2\/how=3\/how=4:=by omega
    clear HC h1 h2 h1b h2b;have HC2:=hid hC2;clear hC2
    have hA':∀ (A':Option Addr) (c':Nat) (w2:World) (o:Obj),w2.ownsRow W.heap.size 2 1 (.slice A' L.length c') L.length (ints L)->1<=L.length->∃ b,A'=some ⟨b,0,none⟩/\(w2.alloc o).cell? ⟨b,0,none⟩=some (.int .i64 (L.headD 0))/\(w2.alloc o).cell? ⟨b,L.length - 1,none⟩=some (.int .i64 (L.getLastD 0)):=fun A' c' w2 o ho hn=>by
     obtain ⟨b,e,hc⟩:=own_int_cell (ho.alloc o) (k:=0) (by omega)
     obtain ⟨b2,e2,hc2⟩:=own_int_cell (ho.alloc o) (k:=L.length - 1) (by omega)
     rw [e] at e2
     injection e2 with e2
     injection e2 with e2
     subst e2
     refine ⟨b,e,?_,?_⟩
     ·rw [hc]
      cases L with
      |nil=>simp at hn
      |cons a l=>rfl
     ·rw [hc2,List.getLastD_eq_getLast?,List.getLast?_eq_getElem?,List.getElem?_eq_getElem (by omega:L.length - 1<L.length)]
      rfl
    have HA':=hid hA';clear hA';obtain ⟨N,hN⟩:∃ N,L.length=N:=⟨_,rfl⟩;unfold chooseL at HC2;rw [hN] at HT HC2 HA';clear hN;generalize L.headD 0=va at*;generalize L.getLastD 0=vz at*
    rcases (by omega:N=0\/N=1\/2<=N) with rfl|rfl|hn
    ·clear HA'
     rw [if_neg (by omega),if_neg (by omega)] at HC2
     rcases hhow with rfl|rfl|rfl|rfl
     all_goals
      go_enter func17,ntmps17
      go_wp2_with (go_at_call 26;refine HT.out.mono ?_;rintro e w2 ⟨A',c',rfl,ho,hb⟩;have HB2:=hid hb;have k5:=fun i=>(Blk.new w2 35 #[.int .i64 g0,.int .i64 g1,.int .i64 g2,.int .i64 g3]).cell i;clear ho hb)
      go_ret2
      rw [HC2.out];exact ⟨rfl,HF.out _ HB2.out _⟩
    ·rw [if_pos rfl] at HC2
     go_enter func17,ntmps17
     go_wp2_with (go_at_call 26;refine HT.out.mono ?_;rintro e w2 ⟨A',c',rfl,ho,hb⟩;have HB2:=hid hb;obtain ⟨b,e1,d0,d1⟩:=HA'.out A' c' w2 (.cells #[.int .i64 g0,.int .i64 g1,.int .i64 g2,.int .i64 g3] 35) ho (by omega);subst e1;clear ho hb)
     go_ret2
     rw [HC2.out];exact ⟨rfl,HF.out _ HB2.out _⟩
    ·rw [if_neg (by omega),if_pos (by omega)] at HC2
     have hq1:(((N:Nat):Int) == 1)=false:=beq_eq_false_iff_ne.2 (by omega)
     have hq2:decide (1<N)=true:=decide_eq_true (by omega)
     have hidx:((N:Int) - 1).toNat=N - 1:=by omega
     rcases hhow with rfl|rfl|rfl|rfl
     all_goals
      go_enter func17,ntmps17
      go_wp2_with (go_at_call 26;refine HT.out.mono ?_;rintro e w2 ⟨A',c',rfl,ho,hb⟩;have HB2:=hid hb;obtain ⟨b,e1,d0,d1⟩:=HA'.out A' c' w2 (.cells #[.int .i64 g0,.int .i64 g1,.int .i64 g2,.int .i64 g3] 35) ho (by omega);subst e1;have hNl:=own_len ho;clear ho hb)
      go_ret2
      rw [HC2.out];exact ⟨rfl,HF.out _ HB2.out _⟩
end Zon
end
end
end Go.Proofs.YtmlejgdohcpmjaaGreatDoor
