/-
  Contracts of the code that the law reaches, and plain laws. Conditions: as each says.
-/
import Derived.Test.YtmlejgdohcpmjaaGreatDoorV05
import Derived.Test.YtmlejgdohcpmjaaGreatDoorV03
set_option linter.all false
set_option maxHeartbeats 40000000
set_option maxRecDepth 100000
namespace Go.Proofs.YtmlejgdohcpmjaaGreatDoor
open Lib (hid)
open Tryz
section
section
namespace Plc
open Go.RowKit Mem
def letterI (n:Int):Bool:=(decide (97<=n) && decide (n<=122)) || (decide (65<=n) && decide (n<=90))
theorem letter_any (n:Int) (w:World):Calls prog 116 #[.int .u8 n] w fun e w'=>e= .returned (.bool (letterI n))/\w'=w:=by
 go_enter func116,ntmps116;unfold letterI
 cases h1:decide (97<=n)<;>cases h2:decide (n<=122)<;>cases h3:decide (65<=n)<;>cases h4:decide (n<=90)
 all_goals go_wp2
 all_goals go_ret
 all_goals simp
def okB (others:List UInt8) (c:UInt8):Bool:=letterI c.toNat || (!(decide ((c.toNat:Int)<48)) && !(decide ((57:Int)<c.toNat))) || !(decide (Lib.indexByte others c<0))
def madeB (s:List UInt8) (most:Int) (others:List UInt8):Bool:=s.all (okB others) && (!s.isEmpty && decide ((s.length:Int)<=most))
theorem all_succ {l:List UInt8} {f:UInt8->Bool} {k:Nat} (hk:k<l.length) (h:(l.take k).all f=true) (hf:f l[k]=true):(l.take (k+1)).all f=true:=by
 rw [List.take_succ_eq_append_getElem hk,List.all_append,h];simp [hf]
theorem made_no {l others:List UInt8} {k:Nat} (hk:k<l.length) {most:Int} (hf:okB others l[k]=false):madeB l most others=false:=by
 have:l.all (okB others)=false:=by
  rw [List.all_eq_false]
  exact ⟨l[k],List.getElem_mem hk,by rw [hf];decide⟩
 simp [madeB,this]
theorem len_eq (s:ByteArray):s.data.toList.length=s.size:=by simp
theorem made_any (s others:ByteArray) (most:Int) (w:World) (hs:s.size<=140737488355328):
  Calls prog 83 #[.string s,.int .i64 most,.string others] w fun e w'=>e= .returned (.bool (madeB s.data.toList most others.data.toList))/\w'=w:=by
 go_enter func83,ntmps83
 go_wp2_with fail
 go_loopw [11] (fun i wr=>∃ k:Nat,k<=s.size/\i= .int .i64 k/\(s.data.toList.take k).all (okB others.data.toList)=true/\wr=w) (fun i _=>s.size - (intOf i).toNat)
 case atStart=>exact ⟨0,Nat.zero_le _,rfl,rfl,rfl⟩
 case round=>
  obtain ⟨k,hk,rfl,hall,rfl⟩:=hrel;have Hall:=hid hall;clear hall
  by_cases hkn:k<s.size
  ·have hc:(((s[k]'hkn).toNat:Int).toNat).toUInt8=s[k]'hkn:=by simp
   obtain ⟨ok,hok⟩:∃ ok,okB others.data.toList (s[k]'hkn)=ok:=⟨_,rfl⟩;have Hok:=hid hok;simp only [okB] at hok
   cases h1:letterI ((s[k]'hkn).toNat:Int)<;>cases h2:decide (((s[k]'hkn).toNat:Int)<48)<;>cases h3:decide ((57:Int)<(s[k]'hkn).toNat)<;>cases h4:decide (Lib.indexByte others.data.toList (s[k]'hkn)<0)
   all_goals rw [h1,h2,h3,h4] at hok
   all_goals simp at hok
   all_goals subst hok
   all_goals go_wp2_with (first
    |(go_at_call 116;refine (letter_any _ _).mono ?_;rintro e w1 ⟨rfl,rfl⟩;rw [h1])
    |(go_at_call 117;refine (Tryz.strings_IndexByte _ _ _).mono ?_;rintro e w1 ⟨rfl,rfl⟩;rw [hc]))
   all_goals first
    |(refine ⟨⟨k+1,by omega,by go_num,all_succ (by simpa using hkn) Hall.out Hok.out,trivial⟩,by simp [intOf];omega⟩;done)
    |(go_ret;exact ⟨by rw [made_no (k:=k) (by simpa using hkn) Hok.out];rfl,rfl⟩)
  ·obtain rfl:k=s.size:=by omega
   rw [show s.data.toList.take s.size=s.data.toList from List.take_of_length_le (by simp)] at Hall
   have hemp:s.data.toList.isEmpty=s.toList.isEmpty:=by rw [ByteArray.toList_eq]
   have Hemp:=hid hemp;clear hemp
   cases h1:s.toList.isEmpty<;>cases h2:decide ((s.size:Int)<=most)
   all_goals go_wp2
   all_goals go_ret
   all_goals
    refine ⟨?_,rfl⟩
    simp only [madeB,Hall.out,Hemp.out,h1,Bool.true_and,len_eq,h2]
    rfl
theorem slash_pos:1<=(⟨#[47]⟩:ByteArray).size:=by decide
def parts (name:ByteArray):List ByteArray:=Lib.splitB ⟨#[47]⟩ 0 (Lib.countB name ⟨#[47]⟩) name
def placeB (name:ByteArray):Bool:=(parts name).all (fun p=>madeB p.data.toList 40 [95,43,45]) && decide ((name.size:Int)<=40)
theorem parts_le (sep:ByteArray) (k:Nat) (s:ByteArray):∀ p∈Lib.splitB sep 0 k s,p.size<=s.size:=by
 induction k generalizing s with
 |zero=>intro p hp;simp [Lib.splitB] at hp;subst hp;exact Nat.le_refl _
 |succ k ih=>
  intro p hp;unfold Lib.splitB at hp
  split at hp
  ·simp at hp;subst hp;exact Nat.le_refl _
  ·rcases List.mem_cons.1 hp with rfl|hp
   ·rw [ByteArray.size_extract];omega
   ·have:=ih _ p hp
    rw [ByteArray.size_extract] at this;omega
theorem place_any (name:ByteArray) (m:Int) (w:World) (hs:name.size<=2097152) (hm:w.cell? ⟨0,0,none⟩=some (.int .i64 m)):
  Calls prog 52 #[.string name] w fun e w'=>e= .returned (.bool (placeB name))/\Below w.heap.size w w':=by
 go_enter func52,ntmps52;have hL:(parts name).length=Lib.countB name ⟨#[47]⟩+1:=Lib.splitB_all _ slash_pos 0 _ name rfl;have hcnt:=Lib.countB_le ⟨#[47]⟩ slash_pos name.size name (Nat.le_refl _);have hsz:∀ p∈parts name,p.size<=name.size:=parts_le _ _ _
 go_wp2_with (go_at_call 82;refine (Tryz.strings_Split name ⟨#[47]⟩ m w (by omega) hm slash_pos).mono ?_;rintro e w1 ⟨rfl,hw1⟩;have Hblk:Hid (Blk w1 w.heap.size 9 ((parts name).map Value.string).toArray):=(by rw [hw1];exact Blk.new w _ _);have Hbel:Hid (Below w.heap.size w w1):=(by rw [hw1];exact (Below.refl _ _).alloc (Nat.le_refl _) _);clear hw1)
 have HL:=hid hL;clear hL;generalize hc:Lib.countB name ⟨#[47]⟩=c at*
 go_loopw [8] (fun i wr=>∃ k:Nat,k<=c+1/\i= .int .i64 k/\((parts name).take k).all (fun p=>madeB p.data.toList 40 [95,43,45])=true/\wr=w1) (fun i _=>c+1 - (intOf i).toNat)
 case atStart=>exact ⟨0,Nat.zero_le _,rfl,rfl,rfl⟩
 case round=>
  obtain ⟨k,hk,rfl,hall,rfl⟩:=hrel;have Hall:=hid hall;clear hall
  by_cases hkn:k<c+1
  ·have hkl:k<(parts name).length:=by rw [HL.out];exact hkn
   have hps:=hsz (parts name)[k] (List.getElem_mem hkl)
   have hcell:wr.cell? (Addr.add ⟨w.heap.size,0,none⟩ k)=some (.string (parts name)[k]):=by
    rw [show Addr.add ⟨w.heap.size,0,none⟩ k=⟨w.heap.size,k,none⟩ from by unfold Addr.add;split<;>simp_all,Hblk.out.cell k]
    simp [List.getElem?_eq_getElem hkl]
   have ad:Addr.add ⟨w.heap.size,0,none⟩ k=⟨w.heap.size,k,none⟩:=by unfold Addr.add;split<;>simp_all
   rw [ad] at hcell;generalize hp:(parts name)[k]=p at*;have Hp:=hid hp;clear hp;have hmd:Hid (madeB p.data.toList 40 (⟨#[95,43,45]⟩:ByteArray).data.toList=madeB p.data.toList 40 [95,43,45]):=rfl
   cases hm1:madeB p.data.toList 40 [95,43,45]
   all_goals go_wp2_with (go_at_call 83;refine (made_any _ _ _ _ (by omega)).mono ?_;rintro e w1 ⟨rfl,rfl⟩;rw [hmd.out,hm1])
   ·go_ret
    refine ⟨?_,Hbel.out⟩
    have:(parts name).all (fun p=>madeB p.data.toList 40 [95,43,45])=false:=by
     rw [List.all_eq_false]
     exact ⟨(parts name)[k],List.getElem_mem hkl,by rw [Hp.out,hm1];decide⟩
    simp [placeB,this]
   ·refine ⟨⟨k+1,by omega,by go_num,?_,trivial⟩,by simp [intOf];omega⟩
    rw [List.take_succ_eq_append_getElem hkl,List.all_append,Hall.out,Hp.out];simp [hm1]
  ·obtain rfl:k=c+1:=by omega
   rw [List.take_of_length_le (by rw [HL.out];exact Nat.le_refl _)] at Hall
   go_wp2;go_ret
   refine ⟨?_,Hbel.out⟩
   simp only [placeB,Hall.out,Bool.true_and]
   rfl
end Plc
end
end
section
section
namespace Src
open Go.RowKit Mem Civ Mom Img Plc Rul
def opensB (s:List UInt8):Bool:=match s with
 |[]=>false
 |c :: _=>letterI c.toNat || ((c.toNat:Int) == 95)
def setB (s:ByteArray):Bool:=madeB s.data.toList 20 [95,45] && opensB s.data.toList
def sz (c:UInt8):Bool:=((c.toNat:Int) == 115) || ((c.toNat:Int) == 122)
def firstSz:List UInt8->Bool
 |[]=>false
 |c :: _=>sz c
def formatB (s:List UInt8):Bool:=
 madeB s 20 [43,45,37,47] &&
  if (Lib.cut s [37]).2.2=true then !Lib.contains s [47] && (!Lib.contains (Lib.cut s [37]).2.1 [37] && firstSz (Lib.cut s [37]).2.1)
  else !(Lib.cut (Lib.cut s [37]).1 [47]).2.2 || (!(Lib.cut (Lib.cut s [37]).1 [47]).1.isEmpty && (!(Lib.cut (Lib.cut s [37]).1 [47]).2.1.isEmpty && !Lib.contains (Lib.cut (Lib.cut s [37]).1 [47]).2.1 [47]))
def savingB (n:Int):Bool:=decide (-43200<=n) && decide (n<=43200)
def yearB (n:Int):Bool:=decide (1<=n) && decide (n<=9999)
def letterB (s:ByteArray):Bool:=decide (s.toList=[]) || (!decide (s.toList=[45]) && madeB s.data.toList 8 [43,45])
def ruleR (r:Rule):Bool:=setB r.name && (yearB r.lo && ((yearB r.hi || decide (r.hi=1000000)) && (spotB (spotOf r) && (savingB r.save && letterB r.letter))))
structure Era where
 off:Int
 kind:Int
 save:Int
 rules:ByteArray
 format:ByteArray
 till:Bool
 year:Int
 spot:Spot
 deriving DecidableEq
def Era.cells (x:Era):List Value:=[.int .i64 x.off,.int .i64 x.kind,.int .i64 x.save,.string x.rules,.string x.format,.bool x.till,.int .i64 x.year,.int .i64 x.spot.month,.int .i64 x.spot.kind,.int .i64 x.spot.weekday,.int .i64 x.spot.day,.int .i64 x.spot.time,.int .i64 x.spot.ref]
def kindB (x:Era):Bool:=
 if x.kind=0 then decide (x.save=0) && x.rules.toList.isEmpty
 else if x.kind=1 then savingB x.save && x.rules.toList.isEmpty
 else if x.kind=2 then decide (x.save=0) && setB x.rules
 else false
def tillB (x:Era):Bool:=if x.till=true then yearB x.year && spotB x.spot else decide (x.year=0) && decide (x.spot=⟨0,0,0,0,0,0⟩)
def eraB (x:Era):Bool:=(Rgt.dayB x.off && formatB x.format.data.toList) && (kindB x && tillB x)
structure ZoneM where
 name:ByteArray
 eras:List Era
 A:Option Addr
 c:Nat
def ZoneM.cells (z:ZoneM):List Value:=[.string z.name,.slice z.A z.eras.length z.c]
structure Link where
 target:ByteArray
 name:ByteArray
 deriving DecidableEq
def Link.cells (l:Link):List Value:=[.string l.target,.string l.name]
def erasOk (es:List Era):Nat->Bool
 |0=>true
 |k+1=>erasOk es k && (match es[k]? with
  |some x=>eraB x && (x.till == decide (((k:Nat):Int)<(es.length:Int) - 1))
  |none=>true)
def zoneB (z:ZoneM):Bool:=placeB z.name && (!(((z.eras.length:Nat):Int) == 0) && (!decide ((40:Int)<(z.eras.length:Nat)) && erasOk z.eras z.eras.length))
def linkB (l:Link):Bool:=placeB l.target && placeB l.name
structure Src where
 rules:List Rule
 zones:List ZoneM
 links:List Link
def srcB (s:Src):Bool:=(!decide (200<s.rules.length) && (!decide (50<s.zones.length) && !decide (100<s.links.length))) && (s.rules.all ruleR && (s.zones.all zoneB && s.links.all linkB))
structure SrcOk (s:Src) (A A2 A3:Option Addr) (w:World):Prop where
 rr:Reads w w.heap.size 11 A s.rules.length (s.rules.flatMap Rule.cells)
 rz:Reads w w.heap.size 2 A2 s.zones.length (s.zones.flatMap ZoneM.cells)
 rl:Reads w w.heap.size 2 A3 s.links.length (s.links.flatMap Link.cells)
 re:∀ z∈s.zones,Reads w w.heap.size 13 z.A z.eras.length (z.eras.flatMap Era.cells)
 nr:s.rules.length<=1000000
 nz:s.zones.length<=1000000
 nl:s.links.length<=1000000
 ne:∀ z∈s.zones,z.eras.length<=1000000
 tr:∀ r∈s.rules,r.name.size<=2097152/\r.letter.size<=2097152
 tz:∀ z∈s.zones,z.name.size<=2097152
 te:∀ z∈s.zones,∀ e∈z.eras,e.rules.size<=2097152/\e.format.size<=2097152
 tl:∀ l∈s.links,l.target.size<=2097152/\l.name.size<=2097152
theorem SrcOk.below {s:Src} {A A2 A3:Option Addr} {w w':World} (h:SrcOk s A A2 A3 w) (hb:Below w.heap.size w w'):SrcOk s A A2 A3 w':=
 ⟨(h.rr.below hb).more hb.size,(h.rz.below hb).more hb.size,(h.rl.below hb).more hb.size,fun z hz=>((h.re z hz).below hb).more hb.size,h.nr,h.nz,h.nl,h.ne,h.tr,h.tz,h.te,h.tl⟩
end Src
namespace Src
open Go.RowKit Mem Civ Mom Img Plc Rul
theorem year_any (n:Int) (w:World):Calls prog 147 #[.int .i64 n] w fun e w'=>e= .returned (.bool (yearB n))/\w'=w:=by
 go_enter func147,ntmps147;unfold yearB
 cases h1:decide (1<=n)<;>cases h2:decide (n<=9999)
 all_goals go_wp2
 all_goals go_ret
 all_goals simp
theorem saving_any (n:Int) (w:World):Calls prog 148 #[.int .i64 n] w fun e w'=>e= .returned (.bool (savingB n))/\w'=w:=by
 go_enter func148,ntmps148;unfold savingB
 cases h1:decide (-43200<=n)<;>cases h2:decide (n<=43200)
 all_goals go_wp2
 all_goals go_ret
 all_goals simp
theorem opens_any (s:ByteArray) (w:World):Calls prog 180 #[.string s] w fun e w'=>e= .returned (.bool (opensB s.data.toList))/\w'=w:=by
 go_enter func180,ntmps180
 by_cases hs0:0<s.size
 ·have h1:s.toList.isEmpty=false:=by
   rw [ByteArray.toList_eq]
   cases h:s.data.toList with
   |nil=>have:s.data.toList.length=s.size:=by simp
         rw [h] at this;simp at this;omega
   |cons a t=>rfl
  have hop:opensB s.data.toList=(letterI ((s[0]'hs0).toNat:Int) || (((s[0]'hs0).toNat:Int) == 95)):=by
   obtain ⟨⟨l⟩⟩:=s
   rcases l with _|⟨c,t⟩
   ·exact absurd hs0 (Nat.lt_irrefl 0)
   ·rfl
  rw [hop];clear hop
  cases h3:letterI ((s[0]'hs0).toNat:Int)
  ·go_wp2_with (go_at_call 116;refine (letter_any _ _).mono ?_;rintro e w1 ⟨rfl,rfl⟩;rw [h3])
   go_ret;exact ⟨rfl,rfl⟩
  ·go_wp2_with (go_at_call 116;refine (letter_any _ _).mono ?_;rintro e w1 ⟨rfl,rfl⟩;rw [h3])
   go_ret;exact ⟨rfl,rfl⟩
 ·have h1:s.toList.isEmpty=true:=by
   rw [ByteArray.toList_eq]
   cases h:s.data.toList with
   |nil=>rfl
   |cons a t=>have:s.data.toList.length=s.size:=by simp
              rw [h] at this;simp at this;omega
  have hop:opensB s.data.toList=false:=by
   rw [ByteArray.toList_eq] at h1
   cases h:s.data.toList with
   |nil=>rfl
   |cons a t=>rw [h] at h1;cases h1
  rw [hop];clear hop;go_wp2;go_ret;exact ⟨rfl,rfl⟩
theorem set_any (s:ByteArray) (w:World) (hs:s.size<=140737488355328):Calls prog 146 #[.string s] w fun e w'=>e= .returned (.bool (setB s))/\w'=w:=by
 have Hm:=hid (fun z=>made_any s ⟨#[95,45]⟩ 20 z hs);have Ho:=hid (fun z=>opens_any s z);unfold setB;have e1:madeB s.data.toList 20 (⟨#[95,45]⟩:ByteArray).data.toList=madeB s.data.toList 20 [95,45]:=rfl;rw [e1] at Hm;clear e1;generalize madeB s.data.toList 20 [95,45]=b1 at*;generalize opensB s.data.toList=b2 at*;go_enter func146,ntmps146
 cases b1<;>cases b2
 all_goals go_wp2_with (first
  |(go_at_call 83;refine (Hm.out _).mono ?_;rintro e w1 ⟨rfl,rfl⟩)
  |(go_at_call 180;refine (Ho.out _).mono ?_;rintro e w1 ⟨rfl,rfl⟩))
 all_goals go_ret
 all_goals exact ⟨rfl,rfl⟩
theorem cut_le (s sep:List UInt8):(Lib.cut s sep).1.length<=s.length/\(Lib.cut s sep).2.1.length<=s.length:=by
 unfold Lib.cut
 split
 ·simp only [List.length_take,List.length_drop];omega
 ·simp
theorem drewN_two (w:World) (a b:Nat):(w.drewN a).drewN b=w.drewN (a+b):=by
 simp [World.drewN,Nat.add_assoc]
theorem drs_two {w w1 w2:World} (h:∃ n,w1=w.drewN n) (k:∃ n,w2=w1.drewN n):∃ n,w2=w.drewN n:=by
 obtain ⟨a,rfl⟩:=h;obtain ⟨b,rfl⟩:=k;exact ⟨a+b,drewN_two _ _ _⟩
theorem format_any (s:ByteArray) (m:Int) (w:World) (hs:s.size<=2097152) (hm:w.cell? ⟨0,0,none⟩=some (.int .i64 m)):
  Calls prog 149 #[.string s] w fun e w'=>e= .returned (.bool (formatB s.data.toList))/\∃ n,w'=w.drewN n:=by
 have HM:=hid hm
 have Hm:=hid (made_any s ⟨#[43,45,37,47]⟩ 20 w (by omega))
 have Hc:=hid (Tryz.strings_Cut s ⟨#[37]⟩ m w (by omega) hm)
 have Hk:=hid (fun z (h:z.cell? ⟨0,0,none⟩=some (.int .i64 m))=>Tryz.strings_Contains s ⟨#[47]⟩ m z (by omega) h)
 go_enter func149,ntmps149;unfold formatB;have e1:madeB s.data.toList 20 (⟨#[43,45,37,47]⟩:ByteArray).data.toList=madeB s.data.toList 20 [43,45,37,47]:=rfl;rw [e1] at Hm;clear e1;generalize madeB s.data.toList 20 [43,45,37,47]=b1 at*
 cases b1
 ·rw [Bool.false_and]
  go_wp2_with (go_at_call 83;refine Hm.out.mono ?_;rintro e w1 ⟨rfl,rfl⟩)
  go_ret;exact ⟨rfl,0,rfl⟩
 ·rw [Bool.true_and]
  have e2:Lib.cut s.data.toList (⟨#[37]⟩:ByteArray).data.toList=Lib.cut s.data.toList [37]:=rfl;have e3:Lib.contains s.data.toList (⟨#[47]⟩:ByteArray).data.toList=Lib.contains s.data.toList [47]:=rfl;have hle1:(Lib.cut s.data.toList [37]).1.length<=s.size/\(Lib.cut s.data.toList [37]).2.1.length<=s.size:=cut_le s.data.toList [37];rw [e2] at Hc;rw [e3] at Hk;clear e2 e3;generalize Lib.contains s.data.toList [47]=b2 at*;generalize Lib.cut s.data.toList [37]=q at*;obtain ⟨q1,q2,q3⟩:=q;simp only at Hc hle1 ⊢
  cases q3
  ·rw [if_neg (by decide)]
   have hle2:=cut_le q1 [47]
   have H1:=hid (fun z (h:z.cell? ⟨0,0,none⟩=some (.int .i64 m))=>Tryz.strings_Cut ⟨q1.toArray⟩ ⟨#[47]⟩ m z (by show q1.length<_;omega) h)
   have e2:Lib.cut (⟨q1.toArray⟩:ByteArray).data.toList (⟨#[47]⟩:ByteArray).data.toList=Lib.cut q1 [47]:=rfl;rw [e2] at H1;clear e2;generalize Lib.cut q1 [47]=r at*;obtain ⟨r1,r2,r3⟩:=r;simp only at H1 hle2 ⊢
   have H2:=hid (fun z (h:z.cell? ⟨0,0,none⟩=some (.int .i64 m))=>Tryz.strings_Contains ⟨r2.toArray⟩ ⟨#[47]⟩ m z (by show r2.length<_;omega) h)
   have e3:Lib.contains (⟨r2.toArray⟩:ByteArray).data.toList (⟨#[47]⟩:ByteArray).data.toList=Lib.contains r2 [47]:=rfl;rw [e3] at H2;clear e3;generalize Lib.contains r2 [47]=b5 at*
   have h1:(⟨r1.toArray⟩:ByteArray).toList.isEmpty=r1.isEmpty:=by rw [ByteArray.toList_eq]
   have h2:(⟨r2.toArray⟩:ByteArray).toList.isEmpty=r2.isEmpty:=by rw [ByteArray.toList_eq]
   generalize r1.isEmpty=b3 at*;generalize r2.isEmpty=b4 at*;generalize (⟨r1.toArray⟩:ByteArray)=R1 at*;generalize (⟨r2.toArray⟩:ByteArray)=R2 at*;clear hle2
   cases r3<;>cases b3<;>cases b4<;>cases b5
   all_goals go_wp2_with (first
    |(go_at_call 83;refine Hm.out.mono ?_;rintro e w1 ⟨rfl,rfl⟩)
    |(go_at_call 74;have tk:=tok;refine (H1.out _ HM1.out).mono ?_;rintro e w2 ⟨rfl,hw⟩;have HM2:=hid (cell_later (below_drs hw) HM1.out);have HD2:=hid (drs_two HD1.out hw);clear hw)
    |(go_at_call 74;refine Hc.out.mono ?_;rintro e w1 ⟨rfl,hw⟩;have HM1:=hid (cell_later (below_drs hw) HM.out);have HD1:=hid hw;clear hw;have tok:True:=trivial)
    |(go_at_call 71;refine (H2.out _ HM2.out).mono ?_;rintro e w1 ⟨rfl,rfl⟩))
   all_goals go_ret
   all_goals exact ⟨rfl,HD2.out⟩
  ·rw [if_pos rfl]
   have H2:=hid (fun z (h:z.cell? ⟨0,0,none⟩=some (.int .i64 m))=>Tryz.strings_Contains ⟨q2.toArray⟩ ⟨#[37]⟩ m z (by show q2.length<_;omega) h)
   have e3:Lib.contains (⟨q2.toArray⟩:ByteArray).data.toList (⟨#[37]⟩:ByteArray).data.toList=Lib.contains q2 [37]:=rfl;rw [e3] at H2;clear e3;generalize Lib.contains q2 [37]=b5 at*
   have h1:(⟨q2.toArray⟩:ByteArray).toList.isEmpty=q2.isEmpty:=by rw [ByteArray.toList_eq]
   obtain ⟨S,hS⟩:∃ S:ByteArray,⟨q2.toArray⟩=S:=⟨_,rfl⟩
   have hq:q2=S.data.toList:=by rw [<-hS]
   rw [hS] at H2 Hc h1;rw [hq]
   have hsz:S.size=q2.length:=by rw [hq];simp
   clear hS
   cases q2 with
   |nil=>
    rw [show ([]:List UInt8).isEmpty=true from rfl] at h1;rw [<-hq];clear hq hsz hle1
    cases b2<;>cases b5
    all_goals go_wp2_with (first
     |(go_at_call 83;refine Hm.out.mono ?_;rintro e w1 ⟨rfl,rfl⟩)
     |(go_at_call 74;refine Hc.out.mono ?_;rintro e w1 ⟨rfl,hw⟩;have HM1:=hid (cell_later (below_drs hw) HM.out);have HD1:=hid hw;clear hw)
     |(go_at_call 71;have tk:=tok;refine (H2.out _ HM1.out).mono ?_;rintro e w1 ⟨rfl,rfl⟩)
     |(go_at_call 71;refine (Hk.out _ HM1.out).mono ?_;rintro e w1 ⟨rfl,rfl⟩;have tok:True:=trivial))
    all_goals go_ret
    all_goals exact ⟨rfl,HD1.out⟩
   |cons c t=>
    rw [show (c :: t:List UInt8).isEmpty=false from rfl] at h1
    have h0:0<S.size:=by rw [hsz];exact Nat.succ_pos _
    have hop:firstSz S.data.toList=((((S[0]'h0).toNat:Int) == 115) || (((S[0]'h0).toNat:Int) == 122)):=by
     obtain ⟨⟨l⟩⟩:=S
     rcases l with _|⟨c,t⟩
     ·exact absurd h0 (Nat.lt_irrefl 0)
     ·rfl
    rw [hop];clear hop hq hsz hle1
    cases h5:(((S[0]'h0).toNat:Int) == 115)<;>cases b2<;>cases b5
    all_goals go_wp2_with (first
     |(go_at_call 83;refine Hm.out.mono ?_;rintro e w1 ⟨rfl,rfl⟩)
     |(go_at_call 74;refine Hc.out.mono ?_;rintro e w1 ⟨rfl,hw⟩;have HM1:=hid (cell_later (below_drs hw) HM.out);have HD1:=hid hw;clear hw)
     |(go_at_call 71;have tk:=tok;refine (H2.out _ HM1.out).mono ?_;rintro e w1 ⟨rfl,rfl⟩)
     |(go_at_call 71;refine (Hk.out _ HM1.out).mono ?_;rintro e w1 ⟨rfl,rfl⟩;have tok:True:=trivial))
    all_goals go_ret
    all_goals exact ⟨rfl,HD1.out⟩
end Src
namespace Src
open Go.RowKit Mem Civ Mom Img Plc Rul
theorem ruleRight_any (r:Rule) (w:World) (h1:r.name.size<=2097152) (h2:r.letter.size<=2097152):
  Calls prog 118 #[.agg r.cells.toArray] w fun e w'=>e= .returned (.bool (ruleR r))/\Below w.heap.size w w':=by
 have hone:=One.new w 69 r.cells.toArray
 have Hs:=hid (fun z=>set_any r.name z (by omega))
 have Hm:=hid (fun z=>made_any r.letter ⟨#[43,45]⟩ 8 z (by omega))
 have Hp:=hid (fun z=>Mom.right_any (spotOf r) z);have Hy1:=hid (fun z=>year_any r.lo z);have Hy2:=hid (fun z=>year_any r.hi z);have Hv:=hid (fun z=>saving_any r.save z);have e1:madeB r.letter.data.toList 8 (⟨#[43,45]⟩:ByteArray).data.toList=madeB r.letter.data.toList 8 [43,45]:=rfl;rw [e1] at Hm;clear e1 h1 h2;unfold ruleR letterB;obtain ⟨r0,r1,r2,r3,r4,r5,r6,r7,r8,r9,r10⟩:=r;simp only [Rule.cells,Spot.cells,spotOf] at hone Hp Hs Hm Hy1 Hy2 Hv ⊢;generalize setB r0=b1 at*;generalize yearB r1=b2 at*;generalize yearB r2=b3 at*
 have e4:(r2 == 1000000)=decide (r2=1000000):=by rw [Bool.eq_iff_iff];simp
 generalize decide (r2=1000000)=b4 at*;generalize spotB ⟨r3,r4,r5,r6,r7,r8⟩=b5 at*;generalize savingB r9=b6 at*;generalize madeB r10.data.toList 8 [43,45]=b9 at*;obtain ⟨W,hW⟩:∃ W,w.alloc (.cells #[.string r0,.int .i64 r1,.int .i64 r2,.int .i64 r3,.int .i64 r4,.int .i64 r5,.int .i64 r6,.int .i64 r7,.int .i64 r8,.int .i64 r9,.string r10] 69)=W:=⟨_,rfl⟩;rw [hW] at hone;have HO:=hid hone;have c0:=hone.1.cell;clear hone;go_enter func118,ntmps118
 rcases (by cases b1<;>cases b2<;>cases b3<;>cases b4<;>simp:b1=false\/(b1=true/\b2=false)\/(b1=true/\b2=true/\b3=false/\b4=false)\/(b1=true/\b2=true/\b3=false/\b4=true)\/(b1=true/\b2=true/\b3=true)) with rfl|⟨rfl,rfl⟩|⟨rfl,rfl,rfl,rfl⟩|⟨rfl,rfl,rfl,rfl⟩|⟨rfl,rfl,rfl⟩
 iterate 3
  ·go_wp2_with (first
   |(go_at_call 146;refine (Hs.out _).mono ?_;rintro e w1 ⟨rfl,rfl⟩)
   |(go_at_call 147;have tk:=tok;refine (Hy2.out _).mono ?_;rintro e w1 ⟨rfl,rfl⟩)
   |(go_at_call 147;refine (Hy1.out _).mono ?_;rintro e w1 ⟨rfl,rfl⟩;have tok:True:=trivial)
   |(go_at_call 148;refine (Hv.out _).mono ?_;rintro e w1 ⟨rfl,rfl⟩)
   |(go_at_call 83;refine (Hm.out _).mono ?_;rintro e w1 ⟨rfl,rfl⟩)
   |(go_at_call 131;refine (Hp.out _).mono ?_;rintro e w2 ⟨rfl,hw⟩;have hb:=HO.out.step (below_of_eq hw);have c1:=hb.1.cell;have HB:=hid hb;clear hw hb))
   go_ret;exact ⟨rfl,HO.out.2⟩
 all_goals
  rcases (by cases b5<;>cases b6<;>simp:b5=false\/(b5=true/\b6=false)\/(b5=true/\b6=true)) with rfl|⟨rfl,rfl⟩|⟨rfl,rfl⟩
  iterate 2
   ·go_wp2_with (first
   |(go_at_call 146;refine (Hs.out _).mono ?_;rintro e w1 ⟨rfl,rfl⟩)
   |(go_at_call 147;have tk:=tok;refine (Hy2.out _).mono ?_;rintro e w1 ⟨rfl,rfl⟩)
   |(go_at_call 147;refine (Hy1.out _).mono ?_;rintro e w1 ⟨rfl,rfl⟩;have tok:True:=trivial)
   |(go_at_call 148;refine (Hv.out _).mono ?_;rintro e w1 ⟨rfl,rfl⟩)
   |(go_at_call 83;refine (Hm.out _).mono ?_;rintro e w1 ⟨rfl,rfl⟩)
   |(go_at_call 131;refine (Hp.out _).mono ?_;rintro e w2 ⟨rfl,hw⟩;have hb:=HO.out.step (below_of_eq hw);have c1:=hb.1.cell;have HB:=hid hb;clear hw hb))
    go_ret;exact ⟨rfl,HB.out.2⟩
  ·by_cases hl1:r10.toList=[]
   ·rw [decide_eq_true hl1]
    go_wp2_with (first
   |(go_at_call 146;refine (Hs.out _).mono ?_;rintro e w1 ⟨rfl,rfl⟩)
   |(go_at_call 147;have tk:=tok;refine (Hy2.out _).mono ?_;rintro e w1 ⟨rfl,rfl⟩)
   |(go_at_call 147;refine (Hy1.out _).mono ?_;rintro e w1 ⟨rfl,rfl⟩;have tok:True:=trivial)
   |(go_at_call 148;refine (Hv.out _).mono ?_;rintro e w1 ⟨rfl,rfl⟩)
   |(go_at_call 83;refine (Hm.out _).mono ?_;rintro e w1 ⟨rfl,rfl⟩)
   |(go_at_call 131;refine (Hp.out _).mono ?_;rintro e w2 ⟨rfl,hw⟩;have hb:=HO.out.step (below_of_eq hw);have c1:=hb.1.cell;have HB:=hid hb;clear hw hb))
    go_ret;exact ⟨rfl,HB.out.2⟩
   ·by_cases hl2:r10.toList=[45]
    ·rw [decide_eq_false hl1,decide_eq_true hl2]
     go_wp2_with (first
   |(go_at_call 146;refine (Hs.out _).mono ?_;rintro e w1 ⟨rfl,rfl⟩)
   |(go_at_call 147;have tk:=tok;refine (Hy2.out _).mono ?_;rintro e w1 ⟨rfl,rfl⟩)
   |(go_at_call 147;refine (Hy1.out _).mono ?_;rintro e w1 ⟨rfl,rfl⟩;have tok:True:=trivial)
   |(go_at_call 148;refine (Hv.out _).mono ?_;rintro e w1 ⟨rfl,rfl⟩)
   |(go_at_call 83;refine (Hm.out _).mono ?_;rintro e w1 ⟨rfl,rfl⟩)
   |(go_at_call 131;refine (Hp.out _).mono ?_;rintro e w2 ⟨rfl,hw⟩;have hb:=HO.out.step (below_of_eq hw);have c1:=hb.1.cell;have HB:=hid hb;clear hw hb))
     go_ret;exact ⟨rfl,HB.out.2⟩
    ·rw [decide_eq_false hl1,decide_eq_false hl2]
     go_wp2_with (first
   |(go_at_call 146;refine (Hs.out _).mono ?_;rintro e w1 ⟨rfl,rfl⟩)
   |(go_at_call 147;have tk:=tok;refine (Hy2.out _).mono ?_;rintro e w1 ⟨rfl,rfl⟩)
   |(go_at_call 147;refine (Hy1.out _).mono ?_;rintro e w1 ⟨rfl,rfl⟩;have tok:True:=trivial)
   |(go_at_call 148;refine (Hv.out _).mono ?_;rintro e w1 ⟨rfl,rfl⟩)
   |(go_at_call 83;refine (Hm.out _).mono ?_;rintro e w1 ⟨rfl,rfl⟩)
   |(go_at_call 131;refine (Hp.out _).mono ?_;rintro e w2 ⟨rfl,hw⟩;have hb:=HO.out.step (below_of_eq hw);have c1:=hb.1.cell;have HB:=hid hb;clear hw hb))
     go_ret
     have hE:(r10.toList.isEmpty || (!(r10.toList == [45]) && b9))=b9:=by
      have h1:r10.toList.isEmpty=false:=by cases h:r10.toList with
       |nil=>exact absurd h hl1
       |cons a t=>rfl
      have h2:(r10.toList == [45])=false:=by simpa using hl2
      rw [h1,h2];rfl
     refine ⟨?_,HB.out.2⟩
     show Ending.returned (.bool (r10.toList.isEmpty || (!(r10.toList == [45]) && b9)))=_
     rw [hE]
     rfl
theorem eq_spot (a b:Spot) (w:World):(Op.equalIn 10000 67 (.agg a.cells.toArray) (.agg b.cells.toArray)).run prog w= .ok (decide (a=b)) w:=by
 cases a
 cases b
 simp [Spot.cells,go_sem]
 repeat (split;skip)
 all_goals simp_all
theorem eraRight_any (x:Era) (m:Int) (w:World) (h1:x.rules.size<=2097152) (h2:x.format.size<=2097152) (hm:w.cell? ⟨0,0,none⟩=some (.int .i64 m)):
  Calls prog 119 #[.agg x.cells.toArray] w fun e w'=>e= .returned (.bool (eraB x))/\Below w.heap.size w w':=by
 have hone:=One.new w 84 x.cells.toArray
 have Hs:=hid (fun z=>set_any x.rules z (by omega))
 have Hf:=hid (fun z (h:z.cell? ⟨0,0,none⟩=some (.int .i64 m))=>format_any x.format m z (by omega) h)
 have Hp:=hid (fun z=>Mom.right_any x.spot z);have Hy:=hid (fun z=>year_any x.year z);have Hv:=hid (fun z=>saving_any x.save z);have heq:=fun z=>eq_spot x.spot ⟨0,0,0,0,0,0⟩ z;clear h1 h2;unfold eraB
 have HK:Hid (kindB x=if x.kind=0 then decide (x.save=0) && x.rules.toList.isEmpty else if x.kind=1 then savingB x.save && x.rules.toList.isEmpty else if x.kind=2 then decide (x.save=0) && setB x.rules else false):=rfl
 have HT:Hid (tillB x=if x.till=true then yearB x.year && spotB x.spot else decide (x.year=0) && decide (x.spot=⟨0,0,0,0,0,0⟩)):=rfl
 generalize kindB x=kb at*;generalize tillB x=tb at*;obtain ⟨x0,x1,x2,x3,x4,x5,x6,⟨y0,y1,y2,y3,y4,y5⟩⟩:=x;simp only [Era.cells,Spot.cells] at hone Hs Hf Hp Hy Hv heq HK HT ⊢;generalize setB x3=b3 at*;generalize formatB x4.data.toList=b4 at*;generalize yearB x6=b6 at*;generalize savingB x2=b2 at*;generalize spotB ⟨y0,y1,y2,y3,y4,y5⟩=b7 at*;generalize decide ((⟨y0,y1,y2,y3,y4,y5⟩:Spot)=⟨0,0,0,0,0,0⟩)=b8 at*
 have e6:(x6 == 0)=decide (x6=0):=by rw [Bool.eq_iff_iff];simp
 generalize decide (x6=0)=b5 at*;obtain ⟨W,hW⟩:∃ W,w.alloc (.cells #[.int .i64 x0,.int .i64 x1,.int .i64 x2,.string x3,.string x4,.bool x5,.int .i64 x6,.int .i64 y0,.int .i64 y1,.int .i64 y2,.int .i64 y3,.int .i64 y4,.int .i64 y5] 84)=W:=⟨_,rfl⟩;rw [hW] at hone;have HO:=hid hone;have c0:=hone.1.cell;have HM1:=hid (cell_later hone.2 hm);clear hone hm;go_enter func119,ntmps119
 by_cases hx1: -86400<x0
 by_cases hx2:x0<86400
 rw [show Rgt.dayB x0=true from by unfold Rgt.dayB;rw [decide_eq_true hx1,decide_eq_true hx2];rfl]
 cases b4
 rotate_left
 rcases (by omega:x1=0\/x1=1\/x1=2\/(x1≠0/\x1≠1/\x1≠2)) with rfl|rfl|rfl|⟨n0,n1,n2⟩
 have hk:=HK.out;rw [if_pos rfl] at hk;subst hk;clear HK
 by_cases hs:x2=0
 rw [decide_eq_true hs]
 have hs2:(x2 != 0)=false:=by simpa using hs
 clear hs
 cases hr:x3.toList.isEmpty
 rw [Bool.and_false]
 rotate_left
 rcases (by cases x5<;>cases b6<;>cases b5<;>first|exact .inl ⟨rfl,rfl,HT.out⟩|exact .inr (.inl ⟨rfl,rfl,HT.out⟩)|exact .inr (.inr (.inl ⟨rfl,rfl,HT.out⟩))|exact .inr (.inr (.inr ⟨rfl,rfl,HT.out⟩)):(x5=false/\b5=false/\tb=false)\/(x5=false/\b5=true/\tb=b8)\/(x5=true/\b6=false/\tb=false)\/(x5=true/\b6=true/\tb=b7)) with ⟨rfl,rfl,rfl⟩|⟨rfl,rfl,rfl⟩|⟨rfl,rfl,rfl⟩|⟨rfl,rfl,rfl⟩
 clear HT
 rotate_left
 clear HT
 rotate_left
 clear HT
 rotate_left
 clear HT
 rotate_left
 rw [decide_eq_false hs]
 have hs2:(x2 != 0)=true:=by simpa using hs
 rotate_left
 have hk:=HK.out
 rw [if_neg (by decide),if_pos rfl] at hk
 subst hk;clear HK
 cases b2
 rotate_left
 cases hr:x3.toList.isEmpty
 rw [Bool.and_false]
 rotate_left
 rcases (by cases x5<;>cases b6<;>cases b5<;>first|exact .inl ⟨rfl,rfl,HT.out⟩|exact .inr (.inl ⟨rfl,rfl,HT.out⟩)|exact .inr (.inr (.inl ⟨rfl,rfl,HT.out⟩))|exact .inr (.inr (.inr ⟨rfl,rfl,HT.out⟩)):(x5=false/\b5=false/\tb=false)\/(x5=false/\b5=true/\tb=b8)\/(x5=true/\b6=false/\tb=false)\/(x5=true/\b6=true/\tb=b7)) with ⟨rfl,rfl,rfl⟩|⟨rfl,rfl,rfl⟩|⟨rfl,rfl,rfl⟩|⟨rfl,rfl,rfl⟩
 clear HT
 rotate_left
 clear HT
 rotate_left
 clear HT
 rotate_left
 clear HT
 rotate_left
 have hk:=HK.out
 rw [if_neg (by decide),if_neg (by decide),if_pos rfl] at hk
 subst hk;clear HK
 by_cases hs:x2=0
 rw [decide_eq_true hs]
 have hs2:(x2 != 0)=false:=by simpa using hs
 clear hs
 cases b3
 rotate_left
 rcases (by cases x5<;>cases b6<;>cases b5<;>first|exact .inl ⟨rfl,rfl,HT.out⟩|exact .inr (.inl ⟨rfl,rfl,HT.out⟩)|exact .inr (.inr (.inl ⟨rfl,rfl,HT.out⟩))|exact .inr (.inr (.inr ⟨rfl,rfl,HT.out⟩)):(x5=false/\b5=false/\tb=false)\/(x5=false/\b5=true/\tb=b8)\/(x5=true/\b6=false/\tb=false)\/(x5=true/\b6=true/\tb=b7)) with ⟨rfl,rfl,rfl⟩|⟨rfl,rfl,rfl⟩|⟨rfl,rfl,rfl⟩|⟨rfl,rfl,rfl⟩
 clear HT
 rotate_left
 clear HT
 rotate_left
 clear HT
 rotate_left
 clear HT
 rotate_left
 rw [decide_eq_false hs]
 have hs2:(x2 != 0)=true:=by simpa using hs
 rotate_left
 have hk:=HK.out;rw [if_neg n0,if_neg n1,if_neg n2] at hk;subst hk;clear HK
 have m0:(x1 == 0)=false:=by simpa using n0
 have m1:(x1 == 1)=false:=by simpa using n1
 have m2:(x1 == 2)=false:=by simpa using n2
 rotate_left
 rw [show Rgt.dayB x0=false from by unfold Rgt.dayB;rw [decide_eq_false hx2,Bool.and_false]]
 rotate_left
 rw [show Rgt.dayB x0=false from by unfold Rgt.dayB;rw [decide_eq_false hx1,Bool.false_and]]
 rotate_left
 all_goals
  go_wp2_with (first|(go_at_call 149;refine (Hf.out _ HM1.out).mono ?_;rintro e w1 ⟨rfl,hw⟩;have hb:=HO.out.step (below_drs hw);have c1:=hb.1.cell;have HB:=hid hb;clear hw hb)|(go_at_call 146;refine (Hs.out _).mono ?_;rintro e w1 ⟨rfl,rfl⟩)|(go_at_call 147;refine (Hy.out _).mono ?_;rintro e w1 ⟨rfl,rfl⟩)|(go_at_call 148;refine (Hv.out _).mono ?_;rintro e w1 ⟨rfl,rfl⟩)|(go_at_call 131;refine (Hp.out _).mono ?_;rintro e w2 ⟨rfl,hw⟩;have hb2:=HB.out.step (below_of_eq hw);have c2:=hb2.1.cell;have HB2:=hid hb2;clear hw hb2))
  first
   |(go_ret;exact ⟨rfl,HB.out.2⟩)
   |(go_ret;exact ⟨rfl,HB2.out.2⟩)
   |(go_ret;exact ⟨rfl,HO.out.2⟩)
end Src
end
end
end Go.Proofs.YtmlejgdohcpmjaaGreatDoor
