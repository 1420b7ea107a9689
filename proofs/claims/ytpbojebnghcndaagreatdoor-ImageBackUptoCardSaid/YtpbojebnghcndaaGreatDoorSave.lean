/-
  What Save's walk leans on: a writer's first text (onto the constant that it begins with), worlds that grow, objects that are kept. Conditions: the lengths are bounded.
  The contract of image.Save: of a right table the image in plain words, of another one nothing and the error. What tail answers is handed in. Conditions: the table lies in memory, its lengths are bounded.
-/
import Derived.Test.YtpbojebnghcndaaGreatDoorPool
import Derived.ArgAppend
import Derived.Laws.IdiomStrings
import Derived.Test.YtpbojebnghcndaaGreatDoorRight
import Derived.Lib.SlBytesConst
namespace Go.Proofs.YtpbojebnghcndaaGreatDoor.Img
open Go.RowKit Mem Go.Maps

section
variable {P : Program} (w : World)
theorem step_append1_grows {ops : Array Oper} {o : Oper} {a : Act} {K : Act → World → Prop} {Q : Exit → Act → World → Prop} {E : Prop} {cs : Array Value} (hgd : o.guard = none) (s x : Operand) (t : TypeId)
    (ho : o.op = .call { callee := .builtin .append, args := #[s, x], argTypes := #[t, t] })
    (e : TypeId) (i : TypeInfo) (z : Value) (size bytes : Nat) (ht : P.underlying t = some (.slice e)) (hi : P.info? e = some i) (hz : i.zero = some z)
    (hsize : i.size = size) (hby : i.bytes = bytes) (hzs : z.cells.size = size) (hsz : 0 < size)
    (b : Addr) (n cap : Nat) (olds : List Value) (hs : a.eval s = .slice (some b) n cap) (hb : b.block < w.heap.size) (hlo : olds.length = n * size) (holds : ∀ j u, olds[j]? = some u → w.cell? (b.add j) = some u)
    (hx : a.eval x = .slice (some ⟨w.heap.size, 0, none⟩) 1 1) (hcs : cs.size = size) (hfull : cap < n + 1)
    (h63 : n + 1 ≤ maxLen) (hbytes : (n + 1) * bytes ≤ 140737488355328)
    (h : ∀ v' w', w'.ownsRow w.heap.size e size v' (n + 1) (olds ++ cs.toList) → (w.alloc (.cells cs e)).grownBy w' none → K (a.put o.dst v') w') :
    if Region.wanted o (yielded ops a.tmps) = true then Oper.wp P o a (w.alloc (.cells cs e)) K Q else E := by
  have hw : Region.wanted o (yielded ops a.tmps) = true := by simp [Region.wanted, hgd]
  rw [if_pos hw]
  obtain ⟨v', w', hrun, r1, r2⟩ := run_append_arg_grows (P := P) (w.alloc (.cells cs e)) t o.type e i z size bytes ht hi hz hsize hby hzs hsz b n cap olds hlo
    (fun j u hu => by rw [World.cell?_alloc_lt w _ _ (by rw [block_of_add]; exact hb)]; exact holds j u hu) ⟨w.heap.size, 0, none⟩ 1 1 cs.toList (by simp [hcs]) (by
      intro j u hu
      have e1 : (⟨w.heap.size, 0, none⟩ : Addr).add j = ⟨w.heap.size, j, none⟩ := by unfold Addr.add; split <;> simp_all
      rw [e1, (Blk.new w e cs).cell j]
      simpa using hu) (by omega) h63 hbytes
  unfold Oper.wp
  simp [execOp, ho, resolve, invoke, builtin, hs, hx, hrun, Result.andThen]
  exact h v' w' (own_base r1 (by simp)) r2
end

theorem Wr.fresh {w W w1 : World} {B g n : Nat} {l : List UInt8} {v v' : Value} (hB : B ≤ g) (hblk : Blk W g 86 #[v]) (hn : n = l.length) (hown1 : w1.ownsRow B 5 1 v' n (Lib.byteCells l)) (hg : W.grownBy w1 none) (hk : Kept B g w W) (hs : B ≤ W.heap.size) :
    Wr (w1.setCell ⟨g, 0, none⟩ v') B g l ∧ Kept B g w (w1.setCell ⟨g, 0, none⟩ v') := by
  have hblk1 : Blk w1 g 86 #[v] := hblk.grown hg (by simp)
  have hne1 : v'.ownBlock ≠ some g := own_blk_ne hown1 hblk1 (by decide)
  have hb : Below B w w1 := hk.bel.grown hg hs fun j hj => by simp at hj
  refine ⟨⟨hB, v', by simpa using hblk1.set_ 0 v', ?_⟩, hb.setCell hB _, Lib.OthersKept.setCell (hk.oth.grown hg fun j hj => by simp at hj) _ rfl _⟩
  subst hn
  exact ownsRow_setCell_other hown1 (a := ⟨g, 0, none⟩) hne1 v'

set_option maxRecDepth 100000 in
/-- A number of one byte, onto a full row that came from a constant. -/
theorem num_first (n : Int) (B g gb : Nat) (l : List UInt8) (w : World) (hBg : B ≤ g) (hblk : Blk w g 86 #[.slice (some ⟨gb, 0, none⟩) l.length l.length]) (hgb : gb < w.heap.size)
    (hr : ∀ j u, (Lib.byteCells l)[j]? = some u → w.cell? ⟨gb, j, none⟩ = some u) (hB : B ≤ w.heap.size) (hl : l.length ≤ 1000) :
    Calls Tryz.prog 51 #[.pointer (some ⟨g, 0, none⟩), .int .i64 n, .int .i64 1] w fun e w' => e = .returned (.tuple #[]) ∧ Wr w' B g (l ++ num n 1) ∧ Kept B g w w' := by
  obtain ⟨i0, hi0, hz0, hz1, hz2⟩ := info_parts info8
  go_enter Tryz.func51, Tryz.ntmps51
  have Hblk := Lib.hid hblk; have Hr := Lib.hid hr; clear hblk hr
  go_wp2
  go_loopw [6] (fun i wr => (i = .int .i64 0 ∧ wr = w) ∨ (i = .int .i64 (-1) ∧ Wr wr B g (l ++ num n 1) ∧ Kept B g w wr)) (fun i _ => (intOf i + 1).toNat)
  case atStart => exact .inl ⟨rfl, rfl⟩
  case round =>
    rcases hrel with ⟨rfl, rfl⟩ | ⟨rfl, hw, hkept⟩
    · have g0 := Hblk.out.cell 0
      have g1 : ∀ o, (wr.alloc o).cell? ⟨g, 0, none⟩ = some (.slice (some ⟨gb, 0, none⟩) l.length l.length) := fun o => by rw [World.cell?_alloc_lt wr o _ Hblk.out.lt]; simpa using g0
      have Hw1 : Hid (Lib.byteCells l ++ (#[Value.int .u8 (IntKind.u8.wrap n)] : Array Value).toList = Lib.byteCells l ++ Lib.byteCells (num n 1)) := by
        show _ = _
        have := byteI_wrap n 0
        simp at this
        rw [this]; rfl
      have wz : IntKind.i64.wrap 0 = 0 := by decide
      go_wp2
      go_region_law (refine step_append1_grows wr.drew rfl (.tmp 17) (.tmp 23) 84 rfl 5 i0 _ 1 1 Tryz.underlying84 hi0 hz0 hz1 hz2 rfl (by omega) ⟨gb, 0, none⟩ l.length l.length (Lib.byteCells l) (by simp [Act.eval]) hgb (by simp [Lib.byteCells_length]) (fun j u hu => (by rw [show Addr.add ⟨gb, 0, none⟩ j = ⟨gb, j, none⟩ from by unfold Addr.add; split <;> simp_all]; exact Hr.out j u hu)) (by simp [Act.eval]) rfl (by omega) (by simp only [maxLen]; omega) (by omega) ?_; intro v' w1 hown1 hg1; have Hown1 := Lib.hid hown1; have Hg1 := Lib.hid hg1; have b1 : Hid (Blk w1 g 86 #[.slice (some ⟨gb, 0, none⟩) l.length l.length]) := Blk.grown (Hblk.out.drew.alloc _) hg1 (by simp); obtain ⟨g1, cap1, rfl, _, _⟩ := hown1.form (Nat.succ_pos _); have c1 := b1.out.cell 0; have f1 := b1.out.frozen 0; clear hown1 hg1)
      all_goals
        have h1 := Hown1.out
        rw [Hw1.out, ← Lib.byteCells_append] at h1
        have R := Lib.hid (Wr.fresh (w := wr) (n := l.length + 1) hBg ((Hblk.out.drew).alloc _) (by simp [num]) (own_base h1 hB) Hg1.out ⟨((Below.refl _ _).drew).alloc (by simpa using hB) _, ((Lib.OthersKept.refl _ _ _).drew).alloc _⟩ (by simp; omega))
        clear h1
        go_wp2
        exact ⟨.inr ⟨by go_num, R.out.1, R.out.2⟩, by simp [intOf]⟩
    · go_wp2
      go_end0
      exact ⟨rfl, hw, hkept⟩

set_option maxRecDepth 100000 in
theorem short_first (s : ByteArray) (B g gb : Nat) (l : List UInt8) (w : World) (hBg : B ≤ g) (hblk : Blk w g 86 #[.slice (some ⟨gb, 0, none⟩) l.length l.length]) (hgb : gb < w.heap.size)
    (hr : ∀ j u, (Lib.byteCells l)[j]? = some u → w.cell? ⟨gb, j, none⟩ = some u) (hB : B ≤ w.heap.size) (hs : s.size ≤ 2097152) (hl : l.length ≤ 1000) :
    Calls Tryz.prog 48 #[.pointer (some ⟨g, 0, none⟩), .string s] w fun e w' => e = .returned (.tuple #[]) ∧ Wr w' B g (l ++ short s.data.toList) ∧ Kept B g w w' := by
  obtain ⟨i0, hi0, hz0, hz1, hz2⟩ := info_parts info8
  go_enter Tryz.func48, Tryz.ntmps48
  have H := Lib.hid (num_first s.size B g gb l w hBg hblk hgb hr hB hl); clear hblk hr
  go_wp2_with (first
    | (go_at_call 51; refine H.out.mono ?_; rintro e w1 ⟨rfl, ⟨hBg, v, hblk, hown⟩, hk1⟩; have Hblk := Lib.hid hblk; have Hown := Lib.hid hown; have Hk1 := Lib.hid hk1; have c1 := hblk.cell 0; clear hblk hown hk1)
    | (at_builtin; refine Lib.wpList_append_own_string _ rfl (.tmp 12) (.tmp 13) 84 9 rfl B 5 i0 Tryz.underlying84 Tryz.underlying9 hi0 hz0 hz1 hz2 v (l ++ num s.size 1).length _ rfl Hown.out s rfl ?m1 ?m2 ?m3 ?_))
  case m1 => simp only [List.length_append, num_length, maxLen]; omega
  case m2 => simp only [List.length_append, num_length]; omega
  case m3 => exact Nat.le_trans hB Hk1.out.bel.size
  intro v' w2 hown2 hg2 _
  have hne : v.ownBlock ≠ some g := own_blk_ne Hown.out Hblk.out (by decide)
  have b2 : Blk w2 g 86 #[v] := Hblk.out.grown hg2 (fun e => hne e.symm)
  have c2 := b2.cell 0
  have f2 := b2.frozen 0
  rw [Lib.strCells_eq] at hown2
  obtain ⟨r1, r2⟩ := Wr.step (k := s.data.toList) hBg Hblk.out Hown.out (by simp) hown2 hg2 Hk1.out (Nat.le_trans hB Hk1.out.bel.size)
  obtain ⟨g1, cap1, rfl, _, _⟩ := hown2.form (by simp [num_length]; omega)
  have R1 := Lib.hid r1; have R2 := Lib.hid r2
  clear b2 hown2 hg2 hne Hblk Hown Hk1 r1 r2
  go_wp2
  go_end0
  refine ⟨rfl, ?_, R2.out⟩
  have := R1.out
  simpa [short, List.append_assoc] using this

/-! ### Worlds that only grow; objects that are kept -/
theorem own_below {w w' : World} {base : Nat} {e : TypeId} {v : Value} {n size : Nat} {xs : List Value} (h : w.ownsRow base e size v n xs) (hb : Below w.heap.size w w') : w'.ownsRow base e size v n xs := by
  refine ⟨h.1, ?_⟩
  rcases h.2 with h0 | ⟨g, cap, cur, e1, e2, e3, r⟩
  · exact .inl h0
  · exact .inr ⟨g, cap, cur, e1, e2, (hb.block g (Array.getElem?_eq_some_iff.1 e3).1).trans e3, r⟩
theorem own_obj {w : World} {base : Nat} {e : TypeId} {g n cap size : Nat} {xs : List Value} (h : w.ownsRow base e size (.slice (some ⟨g, 0, none⟩) n cap) n xs) (he : e ≠ 5) :
    ∃ o, w.heap[g]? = some o ∧ (∀ c fz, o ≠ .cells c 5 fz) ∧ ∀ w' : World, w'.heap[g]? = some o → w'.ownsRow base e size (.slice (some ⟨g, 0, none⟩) n cap) n xs := by
  rcases h.2 with ⟨h0, _⟩ | ⟨g', cap', cur, e1, e2, e3, r⟩
  · cases h0
  · obtain ⟨rfl, rfl⟩ : g' = g ∧ cap' = cap := by simpa [eq_comm] using e1
    exact ⟨_, e3, not_bytes he, fun w' hw => ⟨h.1, .inr ⟨_, _, cur, rfl, e2, hw, r⟩⟩⟩
theorem map_obj {H : Type} {w : World} {r n : Nat} {P : Program} {k : TypeId} {R : Value → Option (DataW H × List MemPlace)} {D : DataW H} (hm : w.ownsMap P k R r n D) :
    ∃ o, w.heap[r]? = some o ∧ (∀ c fz, o ≠ .cells c 5 fz) ∧ ∀ w' : World, w'.heap[r]? = some o → w'.ownsMap P k R r n D := by
  obtain ⟨es, clock, hb2, F, hs, rfl⟩ := hm
  exact ⟨_, hb2, fun _ _ e => (by cases e), fun w' hw => ⟨es, clock, hw, F, hs, rfl⟩⟩
theorem Wr.below {B g : Nat} {w w' : World} {l : List UInt8} (h : Wr w B g l) (hb : Below w.heap.size w w') : Wr w' B g l := by
  obtain ⟨hB, v, h1, h2⟩ := h
  exact ⟨hB, v, h1.below hb h1.lt, own_below h2 hb⟩
theorem Kept.of_below {B g : Nat} {w w' : World} (hB : B ≤ w.heap.size) (hb : Below w.heap.size w w') : Kept B g w w' :=
  ⟨hb.mono hB, fun k _ hk _ _ => (hb.block k (Array.getElem?_eq_some_iff.1 hk).1).trans hk⟩
theorem St.below {B g : Nat} {w0 w w' : World} {os : List (Nat × Obj)} {l : List UInt8} (h : St B g w0 os l w) (hb : Below w.heap.size w w') : St B g w0 os l w' :=
  h.step (h.wr.below hb) (Kept.of_below h.le hb)
theorem St.reads {B g size n : Nat} {w0 w : World} {os : List (Nat × Obj)} {l : List UInt8} {A : Option Addr} {xs : List Value} (h : St B g w0 os l w) (hr : Reads w0 B size A n xs) : Reads w B size A n xs := hr.below h.kept.bel
theorem Wr.view {B g : Nat} {w : World} {l : List UInt8} (h : Wr w B g l) (hl : l ≠ []) : ∃ gr cap, w.cell? ⟨g, 0, none⟩ = some (.slice (some ⟨gr, 0, none⟩) l.length cap) ∧
    (convert 84 9 (.slice (some ⟨gr, 0, none⟩) l.length cap)).run Tryz.prog w = .ok (.string ⟨l.toArray⟩) w := by
  obtain ⟨hB, v, h1, h2⟩ := h
  obtain ⟨gr, cap, rfl, _, _⟩ := h2.form (List.length_pos_iff.2 hl)
  refine ⟨gr, cap, h1.cell 0, run_convert_bytes_back w _ _ _ _ cap l Tryz.underlying84 Tryz.underlying5 Tryz.underlying9 fun j hj => ?_⟩
  exact h2.cells (g := gr) rfl j _ (by simp [Lib.byteCells, List.getElem?_eq_getElem hj])

/-! ### The image, in plain words -/
def magic : List UInt8 := [65, 78, 76, 49]
def Table.kinds (x : Table) : List Phase := kindsL x.first x.shifts
def Table.text (x : Table) : List UInt8 := (poolL x.kinds).1
def Table.begin_ (x : Table) (p : Phase) : Int := ((look (poolL x.kinds).2 p.abbr).getD 0 : Nat)
def b1 (x : Table) : List UInt8 := magic ++ short x.name.data.toList
def three (a b c : Int) : Nat → List UInt8
  | 0 => []
  | 1 => num a 4
  | 2 => num a 4 ++ num b 4
  | _ => num a 4 ++ num b 4 ++ num c 4
def b2 (x : Table) (k : Nat) : List UInt8 := b1 x ++ three x.shifts.length x.kinds.length x.text.length k
def b3 (x : Table) (k : Nat) : List UInt8 := b2 x 3 ++ (x.shifts.take k).flatMap fun s => num s.sec 8
def b4 (x : Table) (k : Nat) : List UInt8 := b3 x x.shifts.length ++ (x.shifts.take k).flatMap fun s => num (x.kinds.idxOf s.ph) 4
def b5 (x : Table) (k : Nat) : List UInt8 := b4 x x.shifts.length ++ (x.kinds.take k).flatMap fun p => num p.off 4 ++ num p.save 4 ++ num (x.begin_ p) 4
def b6 (x : Table) : List UInt8 := b5 x x.kinds.length ++ x.text ++ num x.till 8 ++ num x.tail.length 1
def b7 (x : Table) (k : Nat) : List UInt8 := b6 x ++ (x.tail.take k).flatMap ruleB
def body (x : Table) : List UInt8 := b7 x x.tail.length ++ num x.off 4 ++ short x.format.data.toList
def img (x : Table) : List UInt8 := body x ++ num (sumB (body x)) 4

/-- What is asked of a table in memory. -/
structure TabOk (x : Table) (A A2 : Option Addr) (w : World) : Prop where
  rs : Reads w w.heap.size 4 A x.shifts.length (x.shifts.flatMap Shift.cells)
  rt : Reads w w.heap.size 11 A2 x.tail.length (x.tail.flatMap Rule.cells)
  ns : x.shifts.length ≤ 1000000
  nt : x.tail.length ≤ 1000000
  name : x.name.size ≤ 2097152
  format : x.format.size ≤ 2097152
  first : PW x.first
  shifts : ∀ s ∈ x.shifts, PW s.ph
  rules : ∀ r ∈ x.tail, r.name.size ≤ 2097152 ∧ r.letter.size ≤ 2097152
theorem TabOk.below {x : Table} {A A2 : Option Addr} {w w' : World} (h : TabOk x A A2 w) (hb : Below w.heap.size w w') : TabOk x A A2 w' :=
  ⟨(h.rs.below hb).more hb.size, (h.rt.below hb).more hb.size, h.ns, h.nt, h.name, h.format, h.first, h.shifts, h.rules⟩

theorem flat_succ {α : Type} (f : α → List UInt8) (l : List α) (k : Nat) (hk : k < l.length) : (l.take (k + 1)).flatMap f = (l.take k).flatMap f ++ f l[k] := by
  rw [List.take_succ_eq_append_getElem hk, List.flatMap_append]
  simp
theorem flat_le {α : Type} (f : α → List UInt8) (M : Nat) (l : List α) (hf : ∀ a ∈ l, (f a).length ≤ M) : (l.flatMap f).length ≤ l.length * M := by
  induction l with
  | nil => simp
  | cons a t ih =>
    rw [List.flatMap_cons, List.length_append, List.length_cons, Nat.succ_mul]
    have := hf a (by simp)
    have := ih fun b hb => hf b (by simp [hb])
    omega
theorem flat_take_le {α : Type} (f : α → List UInt8) (M : Nat) (l : List α) (hf : ∀ a ∈ l, (f a).length ≤ M) (k : Nat) : ((l.take k).flatMap f).length ≤ l.length * M := by
  refine Nat.le_trans (flat_le f M _ fun a ha => hf a (List.mem_of_mem_take ha)) (Nat.mul_le_mul_right _ (by simp; omega))
theorem three_len (a b c : Int) (k : Nat) : (three a b c k).length ≤ 12 := by
  unfold three
  split <;> simp [num_length]
theorem three_succ (a b c : Int) (k : Nat) (hk : k < 3) : three a b c (k + 1) = three a b c k ++ num (#[a, b, c].getD k 0) 4 := by
  match k, hk with
  | 0, _ => rfl
  | 1, _ => rfl
  | 2, _ => rfl
theorem kindsL_all (first : Phase) (ss : List Shift) : (kindsL first ss).length ≤ ss.length + 1 := by
  have := kindsL_length first ss ss.length
  rwa [List.take_length] at this
theorem kindsL_mem (first : Phase) (ss : List Shift) : first ∈ kindsL first ss ∧ (∀ s ∈ ss, s.ph ∈ kindsL first ss) ∧ ∀ p ∈ kindsL first ss, p = first ∨ ∃ s ∈ ss, s.ph = p := by
  unfold kindsL
  suffices h : ∀ (l : List Phase), (∀ p ∈ l, p ∈ ss.foldl (fun l s => if s.ph ∈ l then l else l ++ [s.ph]) l) ∧ (∀ s ∈ ss, s.ph ∈ ss.foldl (fun l s => if s.ph ∈ l then l else l ++ [s.ph]) l) ∧
      ∀ p ∈ ss.foldl (fun l s => if s.ph ∈ l then l else l ++ [s.ph]) l, p ∈ l ∨ ∃ s ∈ ss, s.ph = p by
    obtain ⟨h1, h2, h3⟩ := h [first]
    exact ⟨h1 first (by simp), h2, fun p hp => by simpa using h3 p hp⟩
  induction ss with
  | nil => intro l; simp
  | cons a t ih =>
    intro l
    simp only [List.foldl_cons]
    by_cases ha : a.ph ∈ l
    · rw [if_pos ha]
      obtain ⟨h1, h2, h3⟩ := ih l
      refine ⟨h1, fun s hs => ?_, fun p hp => ?_⟩
      · rcases List.mem_cons.1 hs with rfl | hs
        · exact h1 _ ha
        · exact h2 s hs
      · rcases h3 p hp with h | ⟨s, hs, e⟩
        · exact .inl h
        · exact .inr ⟨s, List.mem_cons_of_mem _ hs, e⟩
    · rw [if_neg ha]
      obtain ⟨h1, h2, h3⟩ := ih (l ++ [a.ph])
      refine ⟨fun p hp => h1 p (by simp [hp]), fun s hs => ?_, fun p hp => ?_⟩
      · rcases List.mem_cons.1 hs with rfl | hs
        · exact h1 _ (by simp)
        · exact h2 s hs
      · rcases h3 p hp with h | ⟨s, hs, e⟩
        · rcases List.mem_append.1 h with h | h
          · exact .inl h
          · exact .inr ⟨a, by simp, by simpa [eq_comm] using h⟩
        · exact .inr ⟨s, List.mem_cons_of_mem _ hs, e⟩
end Go.Proofs.YtpbojebnghcndaaGreatDoor.Img
namespace Go.Proofs.YtpbojebnghcndaaGreatDoor.Img
open Go.RowKit Mem Go.Maps Rgt

theorem b2_zero (x : Table) : b2 x 0 = b1 x := by simp [b2, three]
theorem b3_zero (x : Table) : b3 x 0 = b2 x 3 := by simp [b3]
theorem b4_zero (x : Table) : b4 x 0 = b3 x x.shifts.length := by simp [b4]
theorem b5_zero (x : Table) : b5 x 0 = b4 x x.shifts.length := by simp [b5]
theorem b5_pos (x : Table) (k : Nat) : 0 < (b5 x k).length := by
  simp only [b5, b4, b3, b2, b1, List.length_append, magic, List.length_cons]
  omega
theorem b7_zero (x : Table) : b7 x 0 = b6 x := by simp [b7]
theorem b3_succ (x : Table) (k : Nat) (hk : k < x.shifts.length) : b3 x (k + 1) = b3 x k ++ num x.shifts[k].sec 8 := by rw [b3, b3, flat_succ _ _ k hk, List.append_assoc]
theorem b4_succ (x : Table) (k : Nat) (hk : k < x.shifts.length) : b4 x (k + 1) = b4 x k ++ num (x.kinds.idxOf x.shifts[k].ph) 4 := by rw [b4, b4, flat_succ _ _ k hk, List.append_assoc]
theorem b5_succ (x : Table) (k : Nat) (hk : k < x.kinds.length) : b5 x (k + 1) = b5 x k ++ num x.kinds[k].off 4 ++ num x.kinds[k].save 4 ++ num (x.begin_ x.kinds[k]) 4 := by
  rw [b5, b5, flat_succ _ _ k hk]
  simp only [List.append_assoc]
theorem b7_succ (x : Table) (k : Nat) (hk : k < x.tail.length) : b7 x (k + 1) = b7 x k ++ ruleB x.tail[k] := by rw [b7, b7, flat_succ _ _ k hk, List.append_assoc]
section
variable {x : Table} {A A2 : Option Addr} {w : World}
theorem TabOk.kinds (h : TabOk x A A2 w) : x.kinds.length ≤ 1000001 ∧ 0 < x.kinds.length ∧ ∀ p ∈ x.kinds, PW p := by
  refine ⟨?_, kindsL_pos _ _, fun p hp => ?_⟩
  · have := kindsL_all x.first x.shifts
    have := h.ns
    unfold Table.kinds
    omega
  · rcases (kindsL_mem x.first x.shifts).2.2 p hp with rfl | ⟨s, hs, rfl⟩
    · exact h.first
    · exact h.shifts s hs
theorem TabOk.text (h : TabOk x A A2 w) : x.text.length ≤ 1000001 * 8388609 := by
  have h1 := poolL_le 8388608 x.kinds (fun p hp => (h.kinds.2.2 p hp).2.2) x.kinds.length
  rw [List.take_length] at h1
  exact Nat.le_trans h1 (Nat.mul_le_mul_right _ h.kinds.1)
theorem b1_le (h : TabOk x A A2 w) : (b1 x).length ≤ 3000000 := by
  have := h.name
  simp only [b1, List.length_append, short_length, len_toList, magic, List.length_cons, List.length_nil]
  omega
theorem b2_le (h : TabOk x A A2 w) (k : Nat) : (b2 x k).length ≤ 3000012 := by
  have := b1_le h
  have := three_len x.shifts.length x.kinds.length x.text.length k
  simp only [b2, List.length_append]
  omega
theorem b3_le (h : TabOk x A A2 w) (k : Nat) : (b3 x k).length ≤ 11000012 := by
  have := b2_le h 3
  have := flat_take_le (fun s : Shift => num s.sec 8) 8 x.shifts (fun _ _ => by simp [num_length]) k
  have := h.ns
  simp only [b3, List.length_append]
  omega
theorem b4_le (h : TabOk x A A2 w) (k : Nat) : (b4 x k).length ≤ 15000012 := by
  have := b3_le h x.shifts.length
  have := flat_take_le (fun s : Shift => num (x.kinds.idxOf s.ph) 4) 4 x.shifts (fun _ _ => by simp [num_length]) k
  have := h.ns
  simp only [b4, List.length_append]
  omega
theorem b5_le (h : TabOk x A A2 w) (k : Nat) : (b5 x k).length ≤ 27000030 := by
  have := b4_le h x.shifts.length
  have := flat_take_le (fun p : Phase => num p.off 4 ++ num p.save 4 ++ num (x.begin_ p) 4) 12 x.kinds (fun _ _ => by simp [num_length]) k
  have := h.kinds.1
  simp only [b5, List.length_append]
  omega
theorem b6_le (h : TabOk x A A2 w) : (b6 x).length ≤ 9000000000000 := by
  have := b5_le h x.kinds.length
  have := h.text
  simp only [b6, List.length_append, num_length]
  omega
theorem ruleB_le (r : Rule) (h1 : r.name.size ≤ 2097152) (h2 : r.letter.size ≤ 2097152) : (ruleB r).length ≤ 4194400 := by
  simp only [ruleB, List.length_append, num_length, short_length, len_toList]
  omega
theorem b7_le (h : TabOk x A A2 w) (k : Nat) : (b7 x k).length ≤ 14000000000000 := by
  have := b6_le h
  have := flat_take_le ruleB 4194400 x.tail (fun r hr => ruleB_le r (h.rules r hr).1 (h.rules r hr).2) k
  have := h.nt
  simp only [b7, List.length_append]
  omega
theorem body_le (h : TabOk x A A2 w) : (body x).length ≤ 14000003000000 := by
  have := b7_le h x.tail.length
  have := h.format
  simp only [body, List.length_append, num_length, short_length, len_toList]
  omega
theorem img_ne : img x ≠ [] := by
  simp [img, body, b7, b6, b5, b4, b3, b2, b1, magic]
theorem body_ne : body x ≠ [] := by
  simp [body, b7, b6, b5, b4, b3, b2, b1, magic]
end
theorem St.rule {B g : Nat} {w0 w : World} {os : List (Nat × Obj)} {l : List UInt8} (r : Rule) (h : St B g w0 os l w) (h1 : r.name.size ≤ 2097152) (h2 : r.letter.size ≤ 2097152) (hl : l.length ≤ 70368740000000) :
    Calls Tryz.prog 52 #[.pointer (some ⟨g, 0, none⟩), .agg r.cells.toArray] w fun e w' => e = .returned (.tuple #[]) ∧ St B g w0 os (l ++ ruleB r) w' := by
  refine (rule_any r B g l w h.1 h.le h1 h2 hl).mono ?_
  rintro e w' ⟨rfl, hw, hk⟩
  exact ⟨rfl, h.step hw hk⟩
theorem look_some (l : List Phase) : ∀ p ∈ l, (look (poolL l).2 p.abbr).isSome = true := by
  have key : ∀ (k : Nat), ∀ p ∈ l.take k, (look (poolL (l.take k)).2 p.abbr).isSome = true := by
    intro k
    induction k with
    | zero => intro p hp; simp at hp
    | succ k ih =>
      by_cases hk : k < l.length
      · intro p hp
        rw [poolL_succ l k hk]
        rw [List.take_succ_eq_append_getElem hk] at hp
        unfold poolStep
        by_cases hs : (look (poolL (l.take k)).2 l[k].abbr).isSome = true
        · rw [if_pos hs]
          rcases List.mem_append.1 hp with h | h
          · exact ih p h
          · simp at h; rw [h]; exact hs
        · rw [if_neg hs]
          simp only [look_snoc]
          rcases List.mem_append.1 hp with h | h
          · have := ih p h
            cases hx : look (poolL (l.take k)).2 p.abbr with
            | none => rw [hx] at this; cases this
            | some v => simp
          · simp at h
            rw [h]
            simp
      · rw [List.take_of_length_le (by omega)] at ih ⊢
        exact ih
  have := key l.length
  rwa [List.take_length] at this
/-- A table's box's cells. -/
abbrev boxC (x : Table) (A : Option Addr) (c : Nat) (A2 : Option Addr) (c2 : Nat) : Array Value := #[.string x.name, .int .i64 x.first.off, .int .i64 x.first.save, .string x.first.abbr, .slice A x.shifts.length c, .int .i64 x.till, .slice A2 x.tail.length c2, .int .i64 x.off, .string x.format]
set_option maxRecDepth 100000 in
theorem start_any (x : Table) (A A2 : Option Addr) (c c2 : Nat) (w w1 : World) (HB : One w w.heap.size 27 (boxC x A c A2 c2) w1) (hname : x.name.size ≤ 2097152) (hz1 : w.heap.size < w1.heap.size) :
    Calls Tryz.prog 48 #[.pointer (some ⟨w1.heap.size + 1, 0, none⟩), .string x.name] ((w1.alloc (.cells #[.int .u8 65, .int .u8 78, .int .u8 76, .int .u8 49] 5 (4, 5))).alloc (.cells #[.slice (some ⟨w1.heap.size, 0, none⟩) 4 4] 86)) fun e w' =>
        e = .returned (.tuple #[]) ∧ St w.heap.size (w1.heap.size + 1) w' [(w.heap.size, .cells (boxC x A c A2 c2) 27 (0, 0))] (b1 x) w' ∧ Below w.heap.size w w' := by
  have hW : ((w1.alloc (.cells #[.int .u8 65, .int .u8 78, .int .u8 76, .int .u8 49] 5 (4, 5))).alloc (.cells #[.slice (some ⟨w1.heap.size, 0, none⟩) 4 4] 86)).heap.size = w1.heap.size + 1 + 1 := by simp
  have hb2 := Blk.new (w1.alloc (.cells #[.int .u8 65, .int .u8 78, .int .u8 76, .int .u8 49] 5 (4, 5))) 86 #[.slice (some ⟨w1.heap.size, 0, none⟩) 4 4]
  rw [show (w1.alloc (Obj.cells #[Value.int .u8 65, .int .u8 78, .int .u8 76, .int .u8 49] 5 (4, 5))).heap.size = w1.heap.size + 1 from by simp] at hb2
  have hcell : ∀ i, ((w1.alloc (.cells #[.int .u8 65, .int .u8 78, .int .u8 76, .int .u8 49] 5 (4, 5))).alloc (.cells #[.slice (some ⟨w1.heap.size, 0, none⟩) 4 4] 86)).cell? ⟨w1.heap.size, i, none⟩ = (#[Value.int .u8 65, .int .u8 78, .int .u8 76, .int .u8 49] : Array Value)[i]? := fun i => by
    rw [World.cell?_alloc_lt _ _ _ (by simp)]
    exact World.cell?_alloc_mark w1 _ _ _ i
  have hbb : Below w.heap.size w ((w1.alloc (.cells #[.int .u8 65, .int .u8 78, .int .u8 76, .int .u8 49] 5 (4, 5))).alloc (.cells #[.slice (some ⟨w1.heap.size, 0, none⟩) 4 4] 86)) := (HB.2.alloc (Nat.le_of_lt hz1) _).alloc (by simp; omega) _
  have hbx := (HB.1.alloc (.cells #[.int .u8 65, .int .u8 78, .int .u8 76, .int .u8 49] 5 (4, 5))).alloc (.cells #[.slice (some ⟨w1.heap.size, 0, none⟩) 4 4] 86)
  refine (short_first x.name w.heap.size (w1.heap.size + 1) w1.heap.size magic _ (by omega) hb2 (by omega) (fun j u hu => ?_) (by omega) hname (by decide)).mono ?_
  · rw [hcell j]
    have : Lib.byteCells magic = (#[Value.int .u8 65, .int .u8 78, .int .u8 76, .int .u8 49] : Array Value).toList := rfl
    rw [this] at hu
    simpa using hu
  · rintro e w' ⟨rfl, hw, hk⟩
    have hz := hk.bel.size
    exact ⟨rfl, (St.start hw (by omega)).add (hk.oth _ _ hbx (by simp; omega) (not_bytes (by decide))) (by omega) (not_bytes (by decide)), hbb.trans hk.bel⟩

set_option maxHeartbeats 2000000 in
set_option maxRecDepth 100000 in
theorem save_any (x : Table) (A A2 : Option Addr) (c c2 : Nat) (tb : Bool) (m : Int) (w : World) (hx : TabOk x A A2 w) (hm : w.cell? ⟨0, 0, none⟩ = some (.int .i64 m))
    (hT : ∀ w1, Below w.heap.size w w1 → Calls Tryz.prog 63 #[.agg (tabCells x A c A2 c2)] w1 fun e w' => e = .returned (.bool tb) ∧ Below w1.heap.size w1 w') :
    Calls Tryz.prog 18 #[.agg (tabCells x A c A2 c2)] w fun e w' => e = .returned (.tuple (if rightB x tb = true then #[.string ⟨(img x).toArray⟩, .int .i64 0] else #[.string ⟨#[]⟩, .int .i64 1])) ∧ Below w.heap.size w w' := by
  simp only [tabCells] at hT ⊢
  have hbx := box1 w 27 #[.string x.name, .int .i64 x.first.off, .int .i64 x.first.save, .string x.first.abbr, .slice A x.shifts.length c, .int .i64 x.till, .slice A2 x.tail.length c2, .int .i64 x.off, .string x.format]
  have HX := Lib.hid hx; have HT := Lib.hid hT; have Hm := Lib.hid hm; clear hx hT hm
  go_enter Tryz.func18, Tryz.ntmps18
  obtain ⟨W0, hW0⟩ : ∃ W0, w.alloc (.cells #[.string x.name, .int .i64 x.first.off, .int .i64 x.first.save, .string x.first.abbr, .slice A x.shifts.length c, .int .i64 x.till, .slice A2 x.tail.length c2, .int .i64 x.off, .string x.format] 27) = W0 := ⟨_, rfl⟩
  have HB : Hid (One w w.heap.size 27 #[.string x.name, .int .i64 x.first.off, .int .i64 x.first.save, .string x.first.abbr, .slice A x.shifts.length c, .int .i64 x.till, .slice A2 x.tail.length c2, .int .i64 x.off, .string x.format] W0) := by rw [← hW0]; exact ⟨hbx.1, hbx.2.1⟩
  clear hbx
  have hz0 : w.heap.size < W0.heap.size := HB.out.1.lt
  have cc := fun i => HB.out.1.cell i
  cases hr : rightB x tb
  · go_wp2_with (go_at_call 22; refine (right_any x A A2 c c2 tb m _ (HX.out.below HB.out.2).rs HX.out.ns HX.out.name HX.out.first.2.2 (fun s hs => (HX.out.shifts s hs).2.2) (cell_later HB.out.2 Hm.out) (fun w1 hw1 => HT.out w1 (HB.out.2.trans (hw1.mono HB.out.2.size)))).mono ?_; rintro e w1 ⟨rfl, hb1⟩; rw [hr]; have HB := Lib.hid (HB.out.step hb1))
    go_ret2
    exact ⟨rfl, HB.out.2⟩
  · go_wp2_with (first
      | (go_at_call 22; refine (right_any x A A2 c c2 tb m _ (HX.out.below HB.out.2).rs HX.out.ns HX.out.name HX.out.first.2.2 (fun s hs => (HX.out.shifts s hs).2.2) (cell_later HB.out.2 Hm.out) (fun w1 hw1 => HT.out w1 (HB.out.2.trans (hw1.mono HB.out.2.size)))).mono ?_; rintro e w1 ⟨rfl, hb1⟩; rw [hr]; have HB := Lib.hid (HB.out.step hb1); have hconv := Lib.run_convert_bytes_const (P := Tryz.prog) w1 84 5 #[.int .u8 65, .int .u8 78, .int .u8 76, .int .u8 49] 4 4 Tryz.underlying84 Tryz.underlying5; have cd := fun o i => (HB.out.1.alloc o).cell i; have ce := fun o o' i => ((HB.out.1.alloc o).alloc o').cell i))
    clear hconv cd ce cc hW0
    have hz1 : w.heap.size < w1.heap.size := HB.out.1.lt
    refine (start_any x A A2 c c2 w w1 HB.out HX.out.name hz1).mono ?_
    rintro e w3 ⟨rfl, hst, hbw⟩
    have HS := Lib.hid hst; have HW := Lib.hid hbw; have HW3 := HW; clear hst hbw HB
    have cc := fun i => HS.out.cells (.head _) i
    have hzw := HW.out.size
    have hz3 := HS.out.le
    go_wp2_with (first
      | (go_at_call 49; refine (kinds_any x A A2 c c2 w3 (HX.out.below HW.out).rs HX.out.ns HX.out.first HX.out.shifts).mono ?_; rintro e w4 ⟨v5, r6, D6, rfl, hown, hmap, hPM, hb4, hr6⟩; obtain ⟨gk, capk, rfl, hgk, _⟩ := hown.form (kindsL_pos _ _); obtain ⟨ok, hok1, hok2, hok3⟩ := own_obj hown (by decide); obtain ⟨om, hom1, hom2, hom3⟩ := map_obj hmap; have HS := Lib.hid (((HS.out.below hb4).add hok1 (by have := HS.out.wr.lt; omega) hok2).add hom1 (by have := HS.out.wr.lt; omega) hom2); have HW := Lib.hid (HW.out.trans (hb4.mono hzw)); have Hok := Lib.hid hok3; have Hom := Lib.hid hom3; have HPM := Lib.hid hPM; have HK := Lib.hid hown; have hz4 : w.heap.size ≤ w4.heap.size := HW.out.size; clear hown hmap hPM hb4 hok1 hok2 hok3 hom1 hom2 hom3 cc; have cc := fun i => HS.out.cells (.tail _ (.tail _ (.head _))) i)
      | (go_at_call 50; refine (pool_any (kindsL x.first x.shifts) (some ⟨gk, 0, none⟩) capk w4 (Reads.of_own HK.out) HX.out.kinds.1 (fun p hp => (HX.out.kinds.2.2 p hp).2.2)).mono ?_; rintro e w5 ⟨r8, D8, rfl, hmap8, hSM, hb5, hr8⟩; obtain ⟨om8, hom81, hom82, hom83⟩ := map_obj hmap8; have HS := Lib.hid ((HS.out.below hb5).add hom81 (by have := HS.out.wr.lt; omega) hom82); have HW := Lib.hid (HW.out.trans (hb5.mono hz4)); have Hom8 := Lib.hid hom83; have HSM := Lib.hid hSM; have hz5 : w.heap.size ≤ w5.heap.size := HW.out.size; clear hmap8 hSM hb5 hom81 hom82 hom83 cc; have cc := fun i => HS.out.cells (.tail _ (.tail _ (.tail _ (.head _)))) i))
    have hn := HX.out.ns
    have hkn := HX.out.kinds.1
    have htn := HX.out.text
    clear cc
    obtain ⟨OS, hOS⟩ : ∃ OS, OS = [(r8, om8), (r6, om), (gk, ok), (w.heap.size, Obj.cells (boxC x A c A2 c2) 27 (0, 0))] := ⟨_, rfl⟩
    have hm0 : (w.heap.size, Obj.cells (boxC x A c A2 c2) 27 (0, 0)) ∈ OS := by rw [hOS]; simp
    have hm1 : (gk, ok) ∈ OS := by rw [hOS]; simp
    have hm2 : (r6, om) ∈ OS := by rw [hOS]; simp
    have hm3 : (r8, om8) ∈ OS := by rw [hOS]; simp
    have HS : Hid (St w.heap.size (w1.heap.size + 1) w3 OS (b1 x) w5) := by rw [hOS]; exact HS.out
    have M0 := Lib.hid hm0; have M1 := Lib.hid hm1; have M2 := Lib.hid hm2; have M3 := Lib.hid hm3
    clear hOS hm0 hm1 hm2 hm3
    have HS := Lib.hid (HS.out.new (t := 3) (cs := #[.int .i64 x.shifts.length, .int .i64 (kindsL x.first x.shifts).length, .int .i64 (poolL (kindsL x.first x.shifts)).1.length]) (by decide))
    generalize w1.heap.size + 1 = g at HS ⊢
    go_loopw [10, 49] (fun _ i wr => ∃ k : Nat, k ≤ 3 ∧ i = .int .i64 k ∧ St w.heap.size g w3 ((w5.heap.size, .cells #[.int .i64 x.shifts.length, .int .i64 (kindsL x.first x.shifts).length, .int .i64 (poolL (kindsL x.first x.shifts)).1.length] 3 (0, 0)) :: OS) (b2 x k) wr) (fun _ i _ => 3 - (intOf i).toNat)
    case atStart => exact ⟨0, by omega, rfl, by rw [b2_zero x]; exact HS.out⟩
    case round =>
      clear HS
      obtain ⟨k, hk, rfl, hst⟩ := hrel
      have HS := Lib.hid hst; clear hst
      by_cases hk3 : k < 3
      · have cc : wr.cell? ⟨w5.heap.size, k, none⟩ = some (.int .i64 (#[(x.shifts.length : Int), (kindsL x.first x.shifts).length, (poolL (kindsL x.first x.shifts)).1.length].getD k 0)) := by
          rw [HS.out.cells (.head _) k]
          match k, hk3 with
          | 0, _ => rfl
          | 1, _ => rfl
          | 2, _ => rfl
        have hl2 := b2_le HX.out k
        have ad : Addr.add ⟨w5.heap.size, 0, none⟩ k = ⟨w5.heap.size, k, none⟩ := by unfold Addr.add; split <;> simp_all
        have hs2 : b2 x (k + 1) = b2 x k ++ num (#[(x.shifts.length : Int), (kindsL x.first x.shifts).length, (poolL (kindsL x.first x.shifts)).1.length].getD k 0) 4 := by
          rw [b2, b2, three_succ _ _ _ k hk3, List.append_assoc]; rfl
        have Hs2 := Lib.hid hs2; clear hs2
        generalize (#[(x.shifts.length : Int), (kindsL x.first x.shifts).length, (poolL (kindsL x.first x.shifts)).1.length] : Array Int).getD k 0 = y at *
        go_wp2_with (go_at_call 51; refine (St.num _ _ HS.out (by omega) (by omega)).mono ?_; rintro e w2 ⟨rfl, hst1⟩; have HS := Lib.hid hst1; clear hst1)
        refine ⟨⟨k + 1, by omega, by go_num, ?_⟩, by simp [intOf]; omega⟩
        rw [Hs2.out]
        exact HS.out
      · obtain rfl : k = 3 := by omega
        have HS : Hid (St w.heap.size g w3 OS (b3 x 0) wr) := by
          rw [b3_zero x]
          exact ⟨HS.out.1, HS.out.2.1, HS.out.2.2.1, fun y hy => HS.out.2.2.2 y (.tail _ hy)⟩
        have cc := fun i => HS.out.cells M0.out i
        simp only [boxC] at cc
        have HR3 : Hid (TabOk x A A2 w3) := HX.out.below HW3.out
        go_wp2_with fail
        go_loopw [12, 60] (fun _ i wr => ∃ k : Nat, k ≤ x.shifts.length ∧ i = .int .i64 k ∧ St w.heap.size g w3 OS (b3 x k) wr) (fun _ i _ => x.shifts.length - (intOf i).toNat)
        case atStart => exact ⟨0, Nat.zero_le _, rfl, HS.out⟩
        case round =>
          clear HS cc
          obtain ⟨k, hk, rfl, hst⟩ := hrel
          have HQ := Lib.hid hst; clear hst
          by_cases hkn : k < x.shifts.length
          · obtain ⟨ad, rfl, hadb, c0, c1, c2, c3⟩ := shift_at ((HX.out.rs.below HW3.out).below HQ.out.kept.bel) hkn
            have hl3 := b3_le HX.out k
            have Hs3 : Hid (b3 x (k + 1) = b3 x k ++ num x.shifts[k].sec 8) := b3_succ x k hkn
            generalize x.shifts[k] = s at *
            have Hc := Lib.hid (St.num s.sec 8 (HQ.out.alloc (.cells #[.int .i64 s.sec, .int .i64 s.ph.off, .int .i64 s.ph.save, .string s.ph.abbr] 98)) (by omega) (by omega))
            go_wp2_with (go_at_call 51; refine Hc.out.mono ?_; rintro e w2 ⟨rfl, hst1⟩; have HS := Lib.hid hst1; clear hst1)
            have hend : St w.heap.size g w3 OS (b3 x (k + 1)) w2 := by rw [Hs3.out]; exact HS.out
            refine ⟨⟨_, _, _, _, _, _, _, _, _, _, ⟨k + 1, hkn, rfl, hend⟩, rfl⟩, ?_⟩
            simp [intOf]; omega
          · obtain rfl : k = x.shifts.length := by omega
            have HS : Hid (St w.heap.size g w3 OS (b4 x 0) wr) := by
              rw [b4_zero x]
              exact HQ.out
            have cc := fun i => HS.out.cells M0.out i
            simp only [boxC] at cc
            go_wp2_with fail
            go_loopw [14, 72] (fun _ i wr => ∃ k : Nat, k ≤ x.shifts.length ∧ i = .int .i64 k ∧ St w.heap.size g w3 OS (b4 x k) wr) (fun _ i _ => x.shifts.length - (intOf i).toNat)
            case atStart => exact ⟨0, Nat.zero_le _, rfl, HS.out⟩
            case round =>
              clear HS cc
              obtain ⟨k, hk, rfl, hst⟩ := hrel
              have HQ := Lib.hid hst; clear hst
              by_cases hkn : k < x.shifts.length
              · obtain ⟨ad, rfl, hadb, c0, c1, c2, c3⟩ := shift_at ((HX.out.rs.below HW3.out).below HQ.out.kept.bel) hkn
                have hl4 := b4_le HX.out k
                have Hs4 : Hid (b4 x (k + 1) = b4 x k ++ num (x.kinds.idxOf x.shifts[k].ph) 4) := b4_succ x k hkn
                have hpw := HX.out.shifts x.shifts[k] (List.getElem_mem hkn)
                have hat := (HPM.out.2 x.shifts[k].ph hpw).2 ((kindsL_mem x.first x.shifts).2.1 _ (List.getElem_mem hkn)) (.lit (.int .i64 0))
                have Hat := Lib.hid hat; clear hat
                have hkey := phKey x.shifts[k].ph hpw
                simp only [Phase.cells] at hkey
                generalize x.shifts[k] = s at *
                have hmap := Hom.out (wr.alloc (.cells #[.int .i64 s.sec, .int .i64 s.ph.off, .int .i64 s.ph.save, .string s.ph.abbr] 98)) ((HQ.out.alloc _).2.2.2 _ M2.out).1
                have Hmap := Lib.hid hmap; clear hmap
                have Hc := Lib.hid (St.num (x.kinds.idxOf s.ph : Nat) 4 (HQ.out.alloc (.cells #[.int .i64 s.sec, .int .i64 s.ph.off, .int .i64 s.ph.save, .string s.ph.abbr] 98)) (by omega) (by omega))
                go_wp2_with (first
                  | (at_lookup; refine wpList_lookup_own_int (H := Unit) _ rfl _ _ 89 rfl 23 3 .i64 phLaw Tryz.underlying89 Tryz.underlying3 (zero3 _) r6 _ _ rfl Hmap.out _ _ rfl hkey ?_; intro cv hcv _; rw [Hat.out] at hcv; injection hcv with hcv; injection hcv with _ hcv; subst hcv)
                  | (go_at_call 51; refine Hc.out.mono ?_; rintro e w2 ⟨rfl, hst1⟩; have HS := Lib.hid hst1; clear hst1))
                have hend : St w.heap.size g w3 OS (b4 x (k + 1)) w2 := by rw [Hs4.out]; exact HS.out
                refine ⟨⟨_, _, _, _, _, _, _, _, _, _, _, _, ⟨k + 1, hkn, rfl, hend⟩, rfl⟩, ?_⟩
                simp [intOf]; omega
              · obtain rfl : k = x.shifts.length := by omega
                have HS : Hid (St w.heap.size g w3 OS (b5 x 0) wr) := by
                  rw [b5_zero x]
                  exact HQ.out
                have cc := fun i => HS.out.cells M0.out i
                simp only [boxC] at cc
                go_wp2_with fail
                go_loopw [16, 85] (fun _ i wr => ∃ k : Nat, k ≤ x.kinds.length ∧ i = .int .i64 k ∧ St w.heap.size g w3 OS (b5 x k) wr) (fun _ i _ => x.kinds.length - (intOf i).toNat)
                case atStart => exact ⟨0, Nat.zero_le _, rfl, HS.out⟩
                case round =>
                  clear HS cc
                  obtain ⟨k, hk, rfl, hst⟩ := hrel
                  have HQ := Lib.hid hst; clear hst
                  by_cases hkn : k < x.kinds.length
                  · have hrd : Reads wr wr.heap.size 3 (some ⟨gk, 0, none⟩) x.kinds.length (x.kinds.flatMap Phase.cells) := Reads.of_own (Hok.out wr (HQ.out.2.2.2 _ M1.out).1)
                    obtain ⟨ad, had, hadb, c0, c1, c2⟩ := phase_at hrd hkn
                    obtain rfl : ad = ⟨gk, 0, none⟩ := by simpa [eq_comm] using had
                    have hgka : ∀ j, Addr.add ⟨gk, 0, none⟩ j = ⟨gk, j, none⟩ := fun j => by unfold Addr.add; split <;> simp_all
                    simp only [hgka] at c0 c1 c2
                    have hl5 := b5_le HX.out k
                    have Hs5 : Hid (b5 x (k + 1) = b5 x k ++ num x.kinds[k].off 4 ++ num x.kinds[k].save 4 ++ num (x.begin_ x.kinds[k]) 4) := b5_succ x k hkn
                    have hpw := HX.out.kinds.2.2 x.kinds[k] (List.getElem_mem hkn)
                    have hlk := look_some x.kinds x.kinds[k] (List.getElem_mem hkn)
                    obtain ⟨bg, hbg⟩ := Option.isSome_iff_exists.1 hlk
                    have hat := (HSM.out.2 x.kinds[k].abbr).2 bg hbg (.lit (.int .i64 0))
                    have Hat := Lib.hid hat; clear hat
                    have Hbg : Hid (x.begin_ x.kinds[k] = bg) := by show _ = _; unfold Table.begin_; rw [hbg]; rfl
                    clear hbg hlk
                    have hkey : keyOf Tryz.prog 9 (.string x.kinds[k].abbr) = some (.string x.kinds[k].abbr.data.toList) := Go.WideMaps.keyOf_string_mk Tryz.underlying9 (by have := hpw.2.2; unfold maxLen; omega)
                    generalize x.kinds[k] = q at *
                    have HS := Lib.hid (HQ.out.new (t := 23) (cs := #[.int .i64 q.off, .int .i64 q.save, .string q.abbr]) (by decide))
                    go_wp2_with (first
                      | (at_lookup; refine wpList_lookup_own_int (H := Unit) _ rfl _ _ 92 rfl 9 3 .i64 strLaw Tryz.underlying92 Tryz.underlying3 (zero3 _) r8 _ _ rfl (Hom8.out _ (HS.out.2.2.2 _ (.tail _ M3.out)).1) _ _ rfl hkey ?_; intro cv hcv _; rw [Hat.out] at hcv; injection hcv with hcv; injection hcv with _ hcv; subst hcv)
                      | (go_at_call 51; refine (St.num _ _ HS.out (by omega) (by first | omega | (simp only [List.length_append, num_length]; omega))).mono ?_; rintro e w2 ⟨rfl, hst1⟩; have cc := fun i => hst1.cells (.head _) i; have HS := Lib.hid hst1; clear hst1))
                    have hend : St w.heap.size g w3 OS (b5 x (k + 1)) w2 := by
                      have h5 := HS.out
                      rw [Hs5.out, Hbg.out]
                      exact ⟨h5.1, h5.2.1, h5.2.2.1, fun y hy => h5.2.2.2 y (.tail _ hy)⟩
                    first
                      | (refine ⟨⟨k + 1, by omega, by go_num, hend⟩, by simp [intOf]; omega⟩; done)
                      | (refine ⟨⟨_, _, _, _, _, _, _, _, _, _, _, _, _, _, _, _, _, _, _, _, ⟨k + 1, hkn, rfl, hend⟩, rfl⟩, ?_⟩; simp [intOf]; omega)
                  · obtain rfl : k = x.kinds.length := by omega
                    have cc := fun i => HQ.out.cells M0.out i
                    simp only [boxC] at cc
                    obtain ⟨hBg, v, hblk, hown⟩ := HQ.out.wr
                    have Hblk := Lib.hid hblk; have Hown := Lib.hid hown; clear hblk hown
                    have cg := Hblk.out.cell 0
                    obtain ⟨i0, hi0, hz0', hz1', hz2'⟩ := info_parts info8
                    have hl5 := b5_le HX.out x.kinds.length
                    have htl := HX.out.text
                    go_wp2_with (at_builtin; refine Lib.wpList_append_own_string _ rfl (.tmp 108) (.tmp 109) 84 9 rfl w.heap.size 5 i0 Tryz.underlying84 Tryz.underlying9 hi0 hz0' hz1' hz2' v (b5 x x.kinds.length).length _ rfl Hown.out ⟨x.text.toArray⟩ rfl ?m1 ?m2 ?m3 ?_)
                    case m1 => show _ + x.text.length ≤ _; unfold maxLen; omega
                    case m2 => show _ + x.text.length ≤ _; omega
                    case m3 => exact HQ.out.le
                    intro v' w2 hown2 hg2 _
                    have hne : v.ownBlock ≠ some g := own_blk_ne Hown.out Hblk.out (by decide)
                    have b2 : Blk w2 g 86 #[v] := Hblk.out.grown hg2 (fun e => hne e.symm)
                    have c2 := b2.cell 0
                    have f2 := b2.frozen 0
                    have hown3 : w2.ownsRow w.heap.size 5 1 v' ((b5 x x.kinds.length).length + x.text.length) (Lib.byteCells (b5 x x.kinds.length) ++ Lib.byteCells x.text) := hown2
                    have hst := HQ.out.step (Wr.step (w := wr) (k := x.text) hBg Hblk.out Hown.out rfl hown3 hg2 (Kept.refl _ _ _) HQ.out.le).1 (Wr.step (w := wr) (k := x.text) hBg Hblk.out Hown.out rfl hown3 hg2 (Kept.refl _ _ _) HQ.out.le).2
                    obtain ⟨g1, cap1, rfl, _, _⟩ := hown3.form (by have := b5_pos x x.kinds.length; omega)
                    have HS := Lib.hid hst
                    have cc := fun i => hst.cells M0.out i
                    simp only [boxC] at cc
                    clear b2 hown2 hown3 hg2 hne Hblk Hown hst cg
                    have h6 : b5 x x.kinds.length ++ x.text ++ num x.till 8 ++ num x.tail.length 1 = b6 x := rfl
                    have H6 := Lib.hid h6; clear h6
                    have hnt := HX.out.nt
                    go_wp2_with (go_at_call 51; refine (St.num _ _ HS.out (by omega) (by first | omega | (simp only [List.length_append, num_length]; omega))).mono ?_; rintro e w2 ⟨rfl, hst1⟩; have cc := fun i => hst1.cells M0.out i; have HS := Lib.hid hst1; clear hst1; simp only [boxC] at cc)
                    go_loopw [18, 125] (fun _ i wr => ∃ k : Nat, k ≤ x.tail.length ∧ i = .int .i64 k ∧ St w.heap.size g w3 OS (b7 x k) wr) (fun _ i _ => x.tail.length - (intOf i).toNat)
                    case atStart => exact ⟨0, Nat.zero_le _, rfl, by rw [b7_zero, ← H6.out]; exact HS.out⟩
                    case round =>
                      clear HS cc
                      obtain ⟨k, hk, rfl, hst⟩ := hrel
                      have HQ := Lib.hid hst; clear hst
                      by_cases hkn : k < x.tail.length
                      · obtain ⟨ad, rfl, hadb, d0, hc⟩ := rule_at ((HX.out.rt.below HW3.out).below HQ.out.kept.bel) hkn
                        have hl7 := b7_le HX.out k
                        have Hs7 : Hid (b7 x (k + 1) = b7 x k ++ ruleB x.tail[k]) := b7_succ x k hkn
                        have hrs := HX.out.rules x.tail[k] (List.getElem_mem hkn)
                        generalize x.tail[k] = r at *
                        obtain ⟨name, lo, hi, month, kind, weekday, day, time, ref, save, letter⟩ := r
                        have d1 : wr.cell? ⟨(ad.add (k * 11)).block, (ad.add (k * 11)).off + 1, none⟩ = some (.int .i64 lo) := hc 1 (by omega) (by omega)
                        have d2 : wr.cell? ⟨(ad.add (k * 11)).block, (ad.add (k * 11)).off + 2, none⟩ = some (.int .i64 hi) := hc 2 (by omega) (by omega)
                        have d3 : wr.cell? ⟨(ad.add (k * 11)).block, (ad.add (k * 11)).off + 3, none⟩ = some (.int .i64 month) := hc 3 (by omega) (by omega)
                        have d4 : wr.cell? ⟨(ad.add (k * 11)).block, (ad.add (k * 11)).off + 4, none⟩ = some (.int .i64 kind) := hc 4 (by omega) (by omega)
                        have d5 : wr.cell? ⟨(ad.add (k * 11)).block, (ad.add (k * 11)).off + 5, none⟩ = some (.int .i64 weekday) := hc 5 (by omega) (by omega)
                        have d6 : wr.cell? ⟨(ad.add (k * 11)).block, (ad.add (k * 11)).off + 6, none⟩ = some (.int .i64 day) := hc 6 (by omega) (by omega)
                        have d7 : wr.cell? ⟨(ad.add (k * 11)).block, (ad.add (k * 11)).off + 7, none⟩ = some (.int .i64 time) := hc 7 (by omega) (by omega)
                        have d8 : wr.cell? ⟨(ad.add (k * 11)).block, (ad.add (k * 11)).off + 8, none⟩ = some (.int .i64 ref) := hc 8 (by omega) (by omega)
                        have d9 : wr.cell? ⟨(ad.add (k * 11)).block, (ad.add (k * 11)).off + 9, none⟩ = some (.int .i64 save) := hc 9 (by omega) (by omega)
                        have d10 : wr.cell? ⟨(ad.add (k * 11)).block, (ad.add (k * 11)).off + 10, none⟩ = some (.string letter) := hc 10 (by omega) (by omega)
                        clear hc
                        have Hc := Lib.hid (St.rule ⟨name, lo, hi, month, kind, weekday, day, time, ref, save, letter⟩ (HQ.out.alloc (.cells #[.string name, .int .i64 lo, .int .i64 hi, .int .i64 month, .int .i64 kind, .int .i64 weekday, .int .i64 day, .int .i64 time, .int .i64 ref, .int .i64 save, .string letter] 63)) hrs.1 hrs.2 (by omega))
                        simp only [Rule.cells] at Hc
                        go_wp2_with (go_at_call 52; refine Hc.out.mono ?_; rintro e w2 ⟨rfl, hst1⟩; have HS := Lib.hid hst1; clear hst1)
                        have hend : St w.heap.size g w3 OS (b7 x (k + 1)) w2 := by rw [Hs7.out]; exact HS.out
                        first
                          | (refine ⟨⟨k + 1, by omega, by go_num, hend⟩, by simp [intOf]; omega⟩; done)
                          | (refine ⟨⟨_, _, _, _, _, _, _, _, _, _, ⟨k + 1, hkn, rfl, hend⟩, rfl⟩, ?_⟩; simp [intOf]; omega)
                      · obtain rfl : k = x.tail.length := by omega
                        have cc := fun i => HQ.out.cells M0.out i
                        simp only [boxC] at cc
                        have hl7 := b7_le HX.out x.tail.length
                        have HS := HQ
                        go_wp2_with (first
                          | (go_at_call 51; refine (St.num _ _ HS.out (by omega) (by first | omega | (simp only [List.length_append, num_length]; omega))).mono ?_; rintro e w2 ⟨rfl, hst1⟩; have cc := fun i => hst1.cells M0.out i; have HS := Lib.hid hst1; clear hst1; simp only [boxC] at cc)
                          | (go_at_call 48; refine (St.short _ HS.out HX.out.format (by first | omega | (simp only [List.length_append, num_length]; omega))).mono ?_; rintro e w2 ⟨rfl, hst1⟩; have hst1 : St w.heap.size g w3 OS (body x) w2 := hst1; have cc := fun i => hst1.cells M0.out i; have HS := Lib.hid hst1; obtain ⟨gr, capr, cv, hcv⟩ := hst1.wr.view body_ne; clear hst1; simp only [boxC] at cc))
                        have hbl := body_le HX.out
                        have hsl := sumB_lt (body x)
                        have Hsum := Lib.hid (sum_any ⟨(body x).toArray⟩ w2 (by show (body x).length ≤ _; omega))
                        have Hnum := Lib.hid (St.num (sumB (body x) : Nat) 4 HS.out (by omega) (by omega))
                        generalize hsv : sumB (body x) = sv at *
                        have Hi : Hid (img x = body x ++ num sv 4) := by show _ = _; rw [img, hsv]
                        clear hsv
                        go_wp2_with (first
                          | (go_at_call 47; refine Hsum.out.mono ?_; rintro e w4 ⟨rfl, rfl⟩)
                          | (go_at_call 51; refine Hnum.out.mono ?_; rintro e w5 ⟨rfl, hst1⟩; have hst1 : St w.heap.size g w3 OS (img x) w5 := (by rw [Hi.out]; exact hst1); have HS := Lib.hid hst1; obtain ⟨gs, caps, cvs, hcvs⟩ := hst1.wr.view img_ne; clear hst1))
                        go_ret2
                        refine ⟨?_, HW3.out.trans HS.out.kept.bel⟩
                        rfl
end Go.Proofs.YtpbojebnghcndaaGreatDoor.Img
