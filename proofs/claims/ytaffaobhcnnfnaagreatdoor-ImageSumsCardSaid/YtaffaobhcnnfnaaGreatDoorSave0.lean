/-
  What Save's walk leans on: a writer's first text (onto the constant that it begins with), worlds that grow, objects that are kept. Conditions: the lengths are bounded.
-/
import Derived.Test.YtaffaobhcnnfnaaGreatDoorPool
import Derived.ArgAppend
import Derived.Laws.IdiomStrings
namespace Go.Proofs.YtaffaobhcnnfnaaGreatDoor.Img
open Go.RowKit Mem Go.Maps

section
variable {P : Program} (w : World)
theorem step_append1_grows {ops : Array Oper} {o : Oper} {a : Act} {K : Act → World → Prop} {Q : Exit → Act → World → Prop} {E : Prop} {cs : Array Value} (hgd : o.guard = none) (s x : Operand) (t : TypeId)
    (ho : o.op = .call { callee := .builtin .append, args := #[s, x], argTypes := #[t, t] })
    (e : TypeId) (i : TypeInfo) (z : Value) (size bytes : Nat) (ht : P.underlying t = some (.slice e)) (hi : P.info? e = some i) (hz : i.zero = some z)
    (hsize : i.size = size) (hby : i.bytes = bytes) (hzs : z.cells.size = size) (hsz : 0 < size)
    (b : Addr) (n cap : Nat) (olds : List Value) (hs : a.eval s = .slice (some b) n cap) (hb : b.block < w.heap.size) (hlo : olds.length = n * size) (holds : ∀ j u, olds[j]? = some u → w.cell? (b.add j) = some u)
    (hx : a.eval x = .slice (some ⟨w.heap.size, 0, none⟩) 1 1) (hcs : cs.size = size) (hfull : cap < n + 1)
    (h63 : n + 1 ≤ maxLen) (hbytes : (n + 1) * bytes ≤ 140737488355328)
    (h : ∀ v' w', w'.ownsRow w.heap.size e size v' (n + 1) (olds ++ cs.toList) → (w.alloc (.cells cs e)).grownBy w' none → K (a.put o.dst v') w') :
    if Region.wanted o (yielded ops a.tmps) = true then Oper.wp P o a (w.alloc (.cells cs e)) K Q else E := by
  have hw : Region.wanted o (yielded ops a.tmps) = true := by simp [Region.wanted, hgd]
  rw [if_pos hw]
  obtain ⟨v', w', hrun, r1, r2⟩ := run_append_arg_grows (P := P) (w.alloc (.cells cs e)) t o.type e i z size bytes ht hi hz hsize hby hzs hsz b n cap olds hlo
    (fun j u hu => by rw [World.cell?_alloc_lt w _ _ (by rw [block_of_add]; exact hb)]; exact holds j u hu) ⟨w.heap.size, 0, none⟩ 1 1 cs.toList (by simp [hcs]) (by
      intro j u hu
      have e1 : (⟨w.heap.size, 0, none⟩ : Addr).add j = ⟨w.heap.size, j, none⟩ := by unfold Addr.add; split <;> simp_all
      rw [e1, (Blk.new w e cs).cell j]
      simpa using hu) (by omega) h63 hbytes
  unfold Oper.wp
  simp [execOp, ho, resolve, invoke, builtin, hs, hx, hrun, Result.andThen]
  exact h v' w' (own_base r1 (by simp)) r2
end

theorem Wr.fresh {w W w1 : World} {B g n : Nat} {l : List UInt8} {v v' : Value} (hB : B ≤ g) (hblk : Blk W g 55 #[v]) (hn : n = l.length) (hown1 : w1.ownsRow B 5 1 v' n (Lib.byteCells l)) (hg : W.grownBy w1 none) (hk : Kept B g w W) (hs : B ≤ W.heap.size) :
    Wr (w1.setCell ⟨g, 0, none⟩ v') B g l ∧ Kept B g w (w1.setCell ⟨g, 0, none⟩ v') := by
  have hblk1 : Blk w1 g 55 #[v] := hblk.grown hg (by simp)
  have hne1 : v'.ownBlock ≠ some g := own_blk_ne hown1 hblk1 (by decide)
  have hb : Below B w w1 := hk.bel.grown hg hs fun j hj => by simp at hj
  refine ⟨⟨hB, v', by simpa using hblk1.set_ 0 v', ?_⟩, hb.setCell hB _, Lib.OthersKept.setCell (hk.oth.grown hg fun j hj => by simp at hj) _ rfl _⟩
  subst hn
  exact ownsRow_setCell_other hown1 (a := ⟨g, 0, none⟩) hne1 v'

set_option maxRecDepth 100000 in
/-- A number of one byte, onto a full row that came from a constant. -/
theorem num_first (n : Int) (B g gb : Nat) (l : List UInt8) (w : World) (hBg : B ≤ g) (hblk : Blk w g 55 #[.slice (some ⟨gb, 0, none⟩) l.length l.length]) (hgb : gb < w.heap.size)
    (hr : ∀ j u, (Lib.byteCells l)[j]? = some u → w.cell? ⟨gb, j, none⟩ = some u) (hB : B ≤ w.heap.size) (hl : l.length ≤ 1000) :
    Calls Tryz.prog 23 #[.pointer (some ⟨g, 0, none⟩), .int .i64 n, .int .i64 1] w fun e w' => e = .returned (.tuple #[]) ∧ Wr w' B g (l ++ num n 1) ∧ Kept B g w w' := by
  obtain ⟨i0, hi0, hz0, hz1, hz2⟩ := info_parts info8
  go_enter Tryz.func23, Tryz.ntmps23
  have Hblk := Lib.hid hblk; have Hr := Lib.hid hr; clear hblk hr
  go_wp2
  go_loopw [6] (fun i wr => (i = .int .i64 0 ∧ wr = w) ∨ (i = .int .i64 (-1) ∧ Wr wr B g (l ++ num n 1) ∧ Kept B g w wr)) (fun i _ => (intOf i + 1).toNat)
  case atStart => exact .inl ⟨rfl, rfl⟩
  case round =>
    rcases hrel with ⟨rfl, rfl⟩ | ⟨rfl, hw, hkept⟩
    · have g0 := Hblk.out.cell 0
      have g1 : ∀ o, (wr.alloc o).cell? ⟨g, 0, none⟩ = some (.slice (some ⟨gb, 0, none⟩) l.length l.length) := fun o => by rw [World.cell?_alloc_lt wr o _ Hblk.out.lt]; simpa using g0
      have Hw1 : Hid (Lib.byteCells l ++ (#[Value.int .u8 (IntKind.u8.wrap n)] : Array Value).toList = Lib.byteCells l ++ Lib.byteCells (num n 1)) := by
        show _ = _
        have := byteI_wrap n 0
        simp at this
        rw [this]; rfl
      have wz : IntKind.i64.wrap 0 = 0 := by decide
      go_wp2
      go_region_law (refine step_append1_grows wr.drew rfl (.tmp 17) (.tmp 23) 43 rfl 5 i0 _ 1 1 Tryz.underlying43 hi0 hz0 hz1 hz2 rfl (by omega) ⟨gb, 0, none⟩ l.length l.length (Lib.byteCells l) (by simp [Act.eval]) hgb (by simp [Lib.byteCells_length]) (fun j u hu => (by rw [show Addr.add ⟨gb, 0, none⟩ j = ⟨gb, j, none⟩ from by unfold Addr.add; split <;> simp_all]; exact Hr.out j u hu)) (by simp [Act.eval]) rfl (by omega) (by simp only [maxLen]; omega) (by omega) ?_; intro v' w1 hown1 hg1; have Hown1 := Lib.hid hown1; have Hg1 := Lib.hid hg1; have b1 : Hid (Blk w1 g 55 #[.slice (some ⟨gb, 0, none⟩) l.length l.length]) := Blk.grown (Hblk.out.drew.alloc _) hg1 (by simp); obtain ⟨g1, cap1, rfl, _, _⟩ := hown1.form (Nat.succ_pos _); have c1 := b1.out.cell 0; have f1 := b1.out.frozen 0; clear hown1 hg1)
      all_goals
        have h1 := Hown1.out
        rw [Hw1.out, ← Lib.byteCells_append] at h1
        have R := Lib.hid (Wr.fresh (w := wr) (n := l.length + 1) hBg ((Hblk.out.drew).alloc _) (by simp [num]) (own_base h1 hB) Hg1.out ⟨((Below.refl _ _).drew).alloc (by simpa using hB) _, ((Lib.OthersKept.refl _ _ _).drew).alloc _⟩ (by simp; omega))
        clear h1
        go_wp2
        exact ⟨.inr ⟨by go_num, R.out.1, R.out.2⟩, by simp [intOf]⟩
    · go_wp2
      go_end0
      exact ⟨rfl, hw, hkept⟩

set_option maxRecDepth 100000 in
theorem short_first (s : ByteArray) (B g gb : Nat) (l : List UInt8) (w : World) (hBg : B ≤ g) (hblk : Blk w g 55 #[.slice (some ⟨gb, 0, none⟩) l.length l.length]) (hgb : gb < w.heap.size)
    (hr : ∀ j u, (Lib.byteCells l)[j]? = some u → w.cell? ⟨gb, j, none⟩ = some u) (hB : B ≤ w.heap.size) (hs : s.size ≤ 2097152) (hl : l.length ≤ 1000) :
    Calls Tryz.prog 20 #[.pointer (some ⟨g, 0, none⟩), .string s] w fun e w' => e = .returned (.tuple #[]) ∧ Wr w' B g (l ++ short s.data.toList) ∧ Kept B g w w' := by
  obtain ⟨i0, hi0, hz0, hz1, hz2⟩ := info_parts info8
  go_enter Tryz.func20, Tryz.ntmps20
  have H := Lib.hid (num_first s.size B g gb l w hBg hblk hgb hr hB hl); clear hblk hr
  go_wp2_with (first
    | (go_at_call 23; refine H.out.mono ?_; rintro e w1 ⟨rfl, ⟨hBg, v, hblk, hown⟩, hk1⟩; have Hblk := Lib.hid hblk; have Hown := Lib.hid hown; have Hk1 := Lib.hid hk1; have c1 := hblk.cell 0; clear hblk hown hk1)
    | (at_builtin; refine Lib.wpList_append_own_string _ rfl (.tmp 12) (.tmp 13) 43 9 rfl B 5 i0 Tryz.underlying43 Tryz.underlying9 hi0 hz0 hz1 hz2 v (l ++ num s.size 1).length _ rfl Hown.out s rfl ?m1 ?m2 ?m3 ?_))
  case m1 => simp only [List.length_append, num_length, maxLen]; omega
  case m2 => simp only [List.length_append, num_length]; omega
  case m3 => exact Nat.le_trans hB Hk1.out.bel.size
  intro v' w2 hown2 hg2 _
  have hne : v.ownBlock ≠ some g := own_blk_ne Hown.out Hblk.out (by decide)
  have b2 : Blk w2 g 55 #[v] := Hblk.out.grown hg2 (fun e => hne e.symm)
  have c2 := b2.cell 0
  have f2 := b2.frozen 0
  rw [Lib.strCells_eq] at hown2
  obtain ⟨r1, r2⟩ := Wr.step (k := s.data.toList) hBg Hblk.out Hown.out (by simp) hown2 hg2 Hk1.out (Nat.le_trans hB Hk1.out.bel.size)
  obtain ⟨g1, cap1, rfl, _, _⟩ := hown2.form (by simp [num_length]; omega)
  have R1 := Lib.hid r1; have R2 := Lib.hid r2
  clear b2 hown2 hg2 hne Hblk Hown Hk1 r1 r2
  go_wp2
  go_end0
  refine ⟨rfl, ?_, R2.out⟩
  have := R1.out
  simpa [short, List.append_assoc] using this

/-! ### Worlds that only grow; objects that are kept -/
theorem own_below {w w' : World} {base : Nat} {e : TypeId} {v : Value} {n size : Nat} {xs : List Value} (h : w.ownsRow base e size v n xs) (hb : Below w.heap.size w w') : w'.ownsRow base e size v n xs := by
  refine ⟨h.1, ?_⟩
  rcases h.2 with h0 | ⟨g, cap, cur, e1, e2, e3, r⟩
  · exact .inl h0
  · exact .inr ⟨g, cap, cur, e1, e2, (hb.block g (Array.getElem?_eq_some_iff.1 e3).1).trans e3, r⟩
theorem own_obj {w : World} {base : Nat} {e : TypeId} {g n cap size : Nat} {xs : List Value} (h : w.ownsRow base e size (.slice (some ⟨g, 0, none⟩) n cap) n xs) (he : e ≠ 5) :
    ∃ o, w.heap[g]? = some o ∧ (∀ c fz, o ≠ .cells c 5 fz) ∧ ∀ w' : World, w'.heap[g]? = some o → w'.ownsRow base e size (.slice (some ⟨g, 0, none⟩) n cap) n xs := by
  rcases h.2 with ⟨h0, _⟩ | ⟨g', cap', cur, e1, e2, e3, r⟩
  · cases h0
  · obtain ⟨rfl, rfl⟩ : g' = g ∧ cap' = cap := by simpa [eq_comm] using e1
    exact ⟨_, e3, not_bytes he, fun w' hw => ⟨h.1, .inr ⟨_, _, cur, rfl, e2, hw, r⟩⟩⟩
theorem map_obj {H : Type} {w : World} {r n : Nat} {P : Program} {k : TypeId} {R : Value → Option (DataW H × List MemPlace)} {D : DataW H} (hm : w.ownsMap P k R r n D) :
    ∃ o, w.heap[r]? = some o ∧ (∀ c fz, o ≠ .cells c 5 fz) ∧ ∀ w' : World, w'.heap[r]? = some o → w'.ownsMap P k R r n D := by
  obtain ⟨es, clock, hb2, F, hs, rfl⟩ := hm
  exact ⟨_, hb2, fun _ _ e => (by cases e), fun w' hw => ⟨es, clock, hw, F, hs, rfl⟩⟩
theorem Wr.below {B g : Nat} {w w' : World} {l : List UInt8} (h : Wr w B g l) (hb : Below w.heap.size w w') : Wr w' B g l := by
  obtain ⟨hB, v, h1, h2⟩ := h
  exact ⟨hB, v, h1.below hb h1.lt, own_below h2 hb⟩
theorem Kept.of_below {B g : Nat} {w w' : World} (hB : B ≤ w.heap.size) (hb : Below w.heap.size w w') : Kept B g w w' :=
  ⟨hb.mono hB, fun k _ hk _ _ => (hb.block k (Array.getElem?_eq_some_iff.1 hk).1).trans hk⟩
theorem St.below {B g : Nat} {w0 w w' : World} {os : List (Nat × Obj)} {l : List UInt8} (h : St B g w0 os l w) (hb : Below w.heap.size w w') : St B g w0 os l w' :=
  h.step (h.wr.below hb) (Kept.of_below h.le hb)
theorem St.reads {B g size n : Nat} {w0 w : World} {os : List (Nat × Obj)} {l : List UInt8} {A : Option Addr} {xs : List Value} (h : St B g w0 os l w) (hr : Reads w0 B size A n xs) : Reads w B size A n xs := hr.below h.kept.bel
theorem Rule.cells_length (s : Rule) : s.cells.length = 11 := rfl
theorem Wr.view {B g : Nat} {w : World} {l : List UInt8} (h : Wr w B g l) (hl : l ≠ []) : ∃ gr cap, w.cell? ⟨g, 0, none⟩ = some (.slice (some ⟨gr, 0, none⟩) l.length cap) ∧
    (convert 43 9 (.slice (some ⟨gr, 0, none⟩) l.length cap)).run Tryz.prog w = .ok (.string ⟨l.toArray⟩) w := by
  obtain ⟨hB, v, h1, h2⟩ := h
  obtain ⟨gr, cap, rfl, _, _⟩ := h2.form (List.length_pos_iff.2 hl)
  refine ⟨gr, cap, h1.cell 0, run_convert_bytes_back w _ _ _ _ cap l Tryz.underlying43 Tryz.underlying5 Tryz.underlying9 fun j hj => ?_⟩
  exact h2.cells (g := gr) rfl j _ (by simp [Lib.byteCells, List.getElem?_eq_getElem hj])

/-! ### The image, in plain words -/
def magic : List UInt8 := [65, 78, 76, 49]
def Table.kinds (x : Table) : List Phase := kindsL x.first x.shifts
def Table.text (x : Table) : List UInt8 := (poolL x.kinds).1
def Table.begin_ (x : Table) (p : Phase) : Int := ((look (poolL x.kinds).2 p.abbr).getD 0 : Nat)
def b1 (x : Table) : List UInt8 := magic ++ short x.name.data.toList
def three (a b c : Int) : Nat → List UInt8
  | 0 => []
  | 1 => num a 4
  | 2 => num a 4 ++ num b 4
  | _ => num a 4 ++ num b 4 ++ num c 4
def b2 (x : Table) (k : Nat) : List UInt8 := b1 x ++ three x.shifts.length x.kinds.length x.text.length k
def b3 (x : Table) (k : Nat) : List UInt8 := b2 x 3 ++ (x.shifts.take k).flatMap fun s => num s.sec 8
def b4 (x : Table) (k : Nat) : List UInt8 := b3 x x.shifts.length ++ (x.shifts.take k).flatMap fun s => num (x.kinds.idxOf s.ph) 4
def b5 (x : Table) (k : Nat) : List UInt8 := b4 x x.shifts.length ++ (x.kinds.take k).flatMap fun p => num p.off 4 ++ num p.save 4 ++ num (x.begin_ p) 4
def b6 (x : Table) : List UInt8 := b5 x x.kinds.length ++ x.text ++ num x.till 8 ++ num x.tail.length 1
def b7 (x : Table) (k : Nat) : List UInt8 := b6 x ++ (x.tail.take k).flatMap ruleB
def body (x : Table) : List UInt8 := b7 x x.tail.length ++ num x.off 4 ++ short x.format.data.toList
def img (x : Table) : List UInt8 := body x ++ num (sumB (body x)) 4

/-- What is asked of a table in memory. -/
structure TabOk (x : Table) (A A2 : Option Addr) (w : World) : Prop where
  rs : Reads w w.heap.size 4 A x.shifts.length (x.shifts.flatMap Shift.cells)
  rt : Reads w w.heap.size 11 A2 x.tail.length (x.tail.flatMap Rule.cells)
  ns : x.shifts.length ≤ 1000000
  nt : x.tail.length ≤ 1000000
  name : x.name.size ≤ 2097152
  format : x.format.size ≤ 2097152
  first : PW x.first
  shifts : ∀ s ∈ x.shifts, PW s.ph
  rules : ∀ r ∈ x.tail, r.name.size ≤ 2097152 ∧ r.letter.size ≤ 2097152
theorem TabOk.below {x : Table} {A A2 : Option Addr} {w w' : World} (h : TabOk x A A2 w) (hb : Below w.heap.size w w') : TabOk x A A2 w' :=
  ⟨(h.rs.below hb).more hb.size, (h.rt.below hb).more hb.size, h.ns, h.nt, h.name, h.format, h.first, h.shifts, h.rules⟩

theorem flat_succ {α : Type} (f : α → List UInt8) (l : List α) (k : Nat) (hk : k < l.length) : (l.take (k + 1)).flatMap f = (l.take k).flatMap f ++ f l[k] := by
  rw [List.take_succ_eq_append_getElem hk, List.flatMap_append]
  simp
theorem flat_le {α : Type} (f : α → List UInt8) (M : Nat) (l : List α) (hf : ∀ a ∈ l, (f a).length ≤ M) : (l.flatMap f).length ≤ l.length * M := by
  induction l with
  | nil => simp
  | cons a t ih =>
    rw [List.flatMap_cons, List.length_append, List.length_cons, Nat.succ_mul]
    have := hf a (by simp)
    have := ih fun b hb => hf b (by simp [hb])
    omega
theorem flat_take_le {α : Type} (f : α → List UInt8) (M : Nat) (l : List α) (hf : ∀ a ∈ l, (f a).length ≤ M) (k : Nat) : ((l.take k).flatMap f).length ≤ l.length * M := by
  refine Nat.le_trans (flat_le f M _ fun a ha => hf a (List.mem_of_mem_take ha)) (Nat.mul_le_mul_right _ (by simp; omega))
theorem three_len (a b c : Int) (k : Nat) : (three a b c k).length ≤ 12 := by
  unfold three
  split <;> simp [num_length]
theorem three_succ (a b c : Int) (k : Nat) (hk : k < 3) : three a b c (k + 1) = three a b c k ++ num (#[a, b, c].getD k 0) 4 := by
  match k, hk with
  | 0, _ => rfl
  | 1, _ => rfl
  | 2, _ => rfl
theorem kindsL_all (first : Phase) (ss : List Shift) : (kindsL first ss).length ≤ ss.length + 1 := by
  have := kindsL_length first ss ss.length
  rwa [List.take_length] at this
theorem kindsL_mem (first : Phase) (ss : List Shift) : first ∈ kindsL first ss ∧ (∀ s ∈ ss, s.ph ∈ kindsL first ss) ∧ ∀ p ∈ kindsL first ss, p = first ∨ ∃ s ∈ ss, s.ph = p := by
  unfold kindsL
  suffices h : ∀ (l : List Phase), (∀ p ∈ l, p ∈ ss.foldl (fun l s => if s.ph ∈ l then l else l ++ [s.ph]) l) ∧ (∀ s ∈ ss, s.ph ∈ ss.foldl (fun l s => if s.ph ∈ l then l else l ++ [s.ph]) l) ∧
      ∀ p ∈ ss.foldl (fun l s => if s.ph ∈ l then l else l ++ [s.ph]) l, p ∈ l ∨ ∃ s ∈ ss, s.ph = p by
    obtain ⟨h1, h2, h3⟩ := h [first]
    exact ⟨h1 first (by simp), h2, fun p hp => by simpa using h3 p hp⟩
  induction ss with
  | nil => intro l; simp
  | cons a t ih =>
    intro l
    simp only [List.foldl_cons]
    by_cases ha : a.ph ∈ l
    · rw [if_pos ha]
      obtain ⟨h1, h2, h3⟩ := ih l
      refine ⟨h1, fun s hs => ?_, fun p hp => ?_⟩
      · rcases List.mem_cons.1 hs with rfl | hs
        · exact h1 _ ha
        · exact h2 s hs
      · rcases h3 p hp with h | ⟨s, hs, e⟩
        · exact .inl h
        · exact .inr ⟨s, List.mem_cons_of_mem _ hs, e⟩
    · rw [if_neg ha]
      obtain ⟨h1, h2, h3⟩ := ih (l ++ [a.ph])
      refine ⟨fun p hp => h1 p (by simp [hp]), fun s hs => ?_, fun p hp => ?_⟩
      · rcases List.mem_cons.1 hs with rfl | hs
        · exact h1 _ (by simp)
        · exact h2 s hs
      · rcases h3 p hp with h | ⟨s, hs, e⟩
        · rcases List.mem_append.1 h with h | h
          · exact .inl h
          · exact .inr ⟨a, by simp, by simpa [eq_comm] using h⟩
        · exact .inr ⟨s, List.mem_cons_of_mem _ hs, e⟩
end Go.Proofs.YtaffaobhcnnfnaaGreatDoor.Img
