/-
  Package table: the maker (last, put). Conditions: the maker's block and its row of shifts are the call's own; thirty thousand shifts at most.
-/
import Derived.Test.YtdicedpklpadgaaGreatDoorY26
import Derived.Test.YtdicedpklpadgaaGreatDoorY28
set_option linter.all false
namespace Go.Proofs.YtdicedpklpadgaaGreatDoor.Cmq
open Go.RowKit Mem Civ Mom Img Rul Ahd Trn Src Snd Att Rgt Abr

/-- What the maker's step keeps: all below B, and all that is no row of shifts and not the maker. -/
structure KeptS (B b : Nat) (w w' : World) : Prop where
  bel : Below B w w'
  oth : Lib.OthersKept 83 (some b) w w'
theorem KeptS.refl (B b : Nat) (w : World) : KeptS B b w w := ⟨Below.refl _ _, Lib.OthersKept.refl _ _ _⟩
theorem KeptS.trans {B b : Nat} {w w' w'' : World} (h : KeptS B b w w') (k : KeptS B b w' w'') : KeptS B b w w'' := ⟨h.bel.trans k.bel, h.oth.trans k.oth⟩
theorem KeptS.blk {B b g : Nat} {w w' : World} {t : TypeId} {cs : Array Value} (h : KeptS B b w w') (hb : Blk w g t cs) (hg : g ≠ b) (ht : t ≠ 83) : Blk w' g t cs := by
  refine h.oth g _ hb (by simpa using hg) ?_
  intro c fz e
  injection e with _ e2
  exact ht e2
theorem KeptS.alloc {B b : Nat} {w w' : World} (h : KeptS B b w w') (hB : B ≤ w.heap.size) (o : Obj) : KeptS B b w (w'.alloc o) := ⟨h.bel.alloc (Nat.le_trans hB h.bel.size) o, h.oth.alloc o⟩
theorem KeptS.drew {B b : Nat} {w w' : World} (h : KeptS B b w w') : KeptS B b w w'.drew := ⟨h.bel.drew, h.oth.drew⟩
theorem KeptS.step {B b : Nat} {w w' w'' : World} (h : KeptS B b w w') (hB : B ≤ w.heap.size) (hb : Below w'.heap.size w' w'') : KeptS B b w w'' :=
  ⟨h.bel.trans (hb.mono (Nat.le_trans hB h.bel.size)), fun k o hk h1 h2 => by
    have h3 := h.oth k o hk h1 h2
    exact (hb.block k (Array.getElem?_eq_some_iff.1 h3).1).trans h3⟩
theorem KeptS.setCell {B b : Nat} {w w' : World} (h : KeptS B b w w') (hb : B ≤ b) (i : Nat) (u : Value) : KeptS B b w (w'.setCell ⟨b, i, none⟩ u) := ⟨h.bel.setCell hb _, h.oth.setCell _ rfl _⟩
/-- A maker: its block, and the row of its shifts. -/
def MoV (nm : ByteArray) (first : Phase) (v : Value) (till : Int) (tv : Value) (off : Int) (fm : ByteArray) (over : Bool) : Array Value :=
  #[.string nm, .int .i64 first.off, .int .i64 first.save, .string first.abbr, v, .int .i64 till, tv, .int .i64 off, .string fm, .bool over]
def Mo (B b : Nat) (nm : ByteArray) (first : Phase) (till : Int) (tv : Value) (off : Int) (fm : ByteArray) (m : List Shift × Bool) (w : World) : Prop :=
  ∃ v, Blk w b 68 (MoV nm first v till tv off fm m.2) ∧ w.ownsRow B 83 4 v m.1.length (m.1.flatMap Shift.cells)
theorem own_take {w : World} {base : Nat} {e : TypeId} {size g n cap k : Nat} {xs : List Value} (h : w.ownsRow base e size (.slice (some ⟨g, 0, none⟩) n cap) n xs) (hk : k ≤ n) : w.ownsRow base e size (.slice (some ⟨g, 0, none⟩) k cap) k (xs.take (k * size)) := by
  rcases h.2 with ⟨h', _⟩ | ⟨g', cap', cur, h', hb, hg, hnc, hcm, hcs, htake⟩
  · simp at h'
  · simp only [Value.slice.injEq, Option.some.injEq, Addr.mk.injEq, and_true, true_and] at h'
    obtain ⟨rfl, rfl⟩ := h'
    have hle : k * size ≤ n * size := Nat.mul_le_mul_right _ hk
    refine ⟨by rw [List.length_take, h.1]; omega, .inr ⟨g, cap, cur, rfl, hb, hg, by omega, hcm, hcs, ?_⟩⟩
    rw [← htake, List.take_take, Nat.min_eq_left hle]
theorem own_sl {w : World} {base : Nat} {e : TypeId} {size n : Nat} {v : Value} {xs : List Value} (h : w.ownsRow base e size v n xs) : ∃ A c, v = .slice A n c := by
  rcases h.2 with ⟨rfl, rfl, _⟩ | ⟨g, cap, cur, rfl, _⟩
  · exact ⟨_, _, rfl⟩
  · exact ⟨_, _, rfl⟩
theorem own_none {w : World} {base : Nat} {e : TypeId} {size n : Nat} {v : Value} {xs : List Value} (h : w.ownsRow base e size v n xs) : v.ownBlock = none ∨ v.ownBlock ≠ none := by
  cases v.ownBlock <;> simp
theorem own_cap {w : World} {base : Nat} {e : TypeId} {size n g cap : Nat} {xs : List Value} (h : w.ownsRow base e size (.slice (some ⟨g, 0, none⟩) n cap) n xs) : n ≤ cap := by
  rcases h.2 with ⟨hv, _⟩ | ⟨g', cap', cur, hv, _, _, hnc, _⟩
  · cases hv
  · injection hv with _ _ h3
    omega
theorem shift_len4 (l : List Shift) : (l.flatMap Shift.cells).length = l.length * 4 := by
  induction l with
  | nil => rfl
  | cons a t ih => rw [List.flatMap_cons, List.length_append, ih, List.length_cons, Nat.succ_mul, Shift.cells_length]; omega
theorem lastPh_snoc (first : Phase) : ∀ (l : List Shift) (s : Shift), lastPh first (l ++ [s]) = s.ph
  | [], s => rfl
  | [a], s => rfl
  | a :: b :: l, s => by
    have := lastPh_snoc first (b :: l) s
    simpa [lastPh] using this
theorem cutAt_snoc (at_ : Int) (l : List Shift) (s : Shift) : cutAt at_ (l ++ [s]) = if s.sec = at_ then l else l ++ [s] := by
  unfold cutAt
  simp
theorem last_results {w : World} {R0 : Nat} {a0 a1 a2 : Value} (h : Blk w R0 30 #[a0, a1, a2]) (tmps : Array Value) (ht : tmps[2]? = some (.pointer (some ⟨R0, 0, none⟩))) : (results Tryz.f66 tmps).run Tryz.prog w = .ok (.agg #[a0, a1, a2]) w := by
  have hc := fun i => h.cell i
  simp [results, Tryz.results66, go_sem, hc, ht]
set_option maxHeartbeats 1000000 in
set_option maxRecDepth 100000 in
theorem last_any (B b : Nat) (nm : ByteArray) (first : Phase) (till : Int) (tv : Value) (off : Int) (fm : ByteArray) (m : List Shift × Bool) (w : World) (h : Mo B b nm first till tv off fm m w) (hn : m.1.length ≤ 1000000) :
    Calls Tryz.prog 66 #[.pointer (some ⟨b, 0, none⟩)] w fun e w' => e = .returned (.agg #[.int .i64 (lastPh first m.1).off, .int .i64 (lastPh first m.1).save, .string (lastPh first m.1).abbr]) ∧ Below w.heap.size w w' := by
  obtain ⟨v, hb, ho⟩ := h
  obtain ⟨ss, over⟩ := m
  have hb1 := box1 w 30 #[.int .i64 0, .int .i64 0, .string ⟨#[]⟩]
  have hblt := hb.lt
  have hbw := hb.alloc (.cells #[.int .i64 0, .int .i64 0, .string ⟨#[]⟩] 30)
  simp only [MoV] at hb hbw ho hn ⊢
  have c0 := fun i => hbw.cell i
  rcases List.eq_nil_or_concat ss with rfl | ⟨l, s, rfl⟩
  · have hv : ∃ A cp, v = .slice A 0 cp := by
      rcases ho.2 with ⟨rfl, _⟩ | ⟨g, cap, cur, rfl, _⟩
      · exact ⟨_, _, rfl⟩
      · exact ⟨_, _, rfl⟩
    obtain ⟨A, cp, rfl⟩ := hv
    obtain ⟨p0, p1, p2⟩ := first
    simp only [lastPh] at c0 ⊢
    have HB1 := Lib.hid hb1
    have f1 := fun i => hb1.1.frozen i
    clear hb ho hbw hb1
    go_enter Tryz.func66, Tryz.ntmps66
    go_wp2_with fail
    refine bodyPost_ret (last_results (Blk.new w 30 #[.int .i64 p0, .int .i64 p1, .string p2]) _ rfl) rfl ?_
    exact ⟨rfl, (Below.refl _ _).alloc (Nat.le_refl _) _⟩
  · simp only [List.concat_eq_append] at ho hn ⊢
    rw [lastPh_snoc]
    have hlen : (l ++ [s]).length = l.length + 1 := by simp
    rw [hlen] at ho hn
    obtain ⟨g, cap, rfl, hBg, hg⟩ := ho.form (Nat.succ_pos _)
    have hcell : ∀ i, i < 4 → (w.alloc (.cells #[.int .i64 0, .int .i64 0, .string ⟨#[]⟩] 30)).cell? ⟨g, l.length * 4 + i, none⟩ = s.cells[i]? := fun i hi => by
      rw [(ho.alloc _).cellAt _ (by rw [Nat.succ_mul]; omega), flat_get Shift.cells 4 Shift.cells_length _ l.length i hi, List.getElem?_append_right (Nat.le_refl _), Nat.sub_self]
      rfl
    obtain ⟨s0, ⟨s1, s2, s3⟩⟩ := s
    have d1 := hcell 1 (by omega)
    have d2 := hcell 2 (by omega)
    have d3 := hcell 3 (by omega)
    simp only [Shift.cells, List.getElem?_cons_succ, List.getElem?_cons_zero] at d1 d2 d3
    have hwl : wrap64 ((l.length : Int) + 1 - 1) = (l.length : Nat) := by unfold wrap64; omega
    have HB1 := Lib.hid hb1
    have f1 := fun i => hb1.1.frozen i
    clear hb ho hbw hb1 hcell hlen
    go_enter Tryz.func66, Tryz.ntmps66
    go_wp2_with fail
    refine bodyPost_ret (last_results (Blk.new w 30 #[.int .i64 s1, .int .i64 s2, .string s3]) _ rfl) rfl ?_
    exact ⟨rfl, (Below.refl _ _).alloc (Nat.le_refl _) _⟩
theorem info_shift : (Tryz.prog.info? 83).map (fun i => (i.zero, i.size, i.bytes)) = some (some (.agg #[.int .i64 0, .int .i64 0, .int .i64 0, .string ⟨#[]⟩]), 4, 40) := by kernel_rfl
theorem one_shift {a b c : Int} {d : ByteArray} : ∀ u ∈ (#[Value.int .i64 a, .int .i64 b, .int .i64 c, .string d] : Array Value).toList, u.oneCell' = true := by
  intro u hu
  simp only [List.mem_cons, List.not_mem_nil, or_false] at hu
  rcases hu with rfl | rfl | rfl | rfl <;> rfl
theorem Mo.step {B b : Nat} {nm : ByteArray} {first : Phase} {till : Int} {tv : Value} {off : Int} {fm : ByteArray} {m : List Shift × Bool} {w w' : World} (h : Mo B b nm first till tv off fm m w) (hb : Below w.heap.size w w') : Mo B b nm first till tv off fm m w' := by
  obtain ⟨v, h1, h2⟩ := h
  exact ⟨v, h1.below hb h1.lt, h2.kept (gr_of_below hb) (by
    rcases h2.2 with ⟨hv, _⟩ | ⟨g, cap, cur, hv, _⟩
    · rw [hv]; exact .inl rfl
    · rw [hv]; exact .inr (by simp [Value.ownBlock]))⟩
theorem mo_push {w W wB : World} {B b n : Nat} {nm : ByteArray} {first : Phase} {till : Int} {tv : Value} {off : Int} {fm : ByteArray} {over : Bool} {v v' : Value} {xs cs : List Value} (hB : B ≤ b) (hblk : Blk W b 68 (MoV nm first v till tv off fm over)) (hown : W.ownsRow B 83 4 v n xs)
    (hown1 : wB.ownsRow B 83 4 v' (n + 1) (xs ++ cs)) (hg : W.grownBy wB v.ownBlock) (hk : KeptS B b w W) (hs : B ≤ W.heap.size) :
    Blk (wB.setCell ⟨b, 4, none⟩ v') b 68 (MoV nm first v' till tv off fm over) ∧ (wB.setCell ⟨b, 4, none⟩ v').ownsRow B 83 4 v' (n + 1) (xs ++ cs) ∧ KeptS B b w (wB.setCell ⟨b, 4, none⟩ v') := by
  have hne : v.ownBlock ≠ some b := own_blk_ne hown hblk (by decide)
  have hblk1 : Blk wB b 68 (MoV nm first v till tv off fm over) := hblk.grown hg (fun e => hne e.symm)
  have hne1 : v'.ownBlock ≠ some b := own_blk_ne hown1 hblk1 (by decide)
  have hb : Below B w wB := hk.bel.grown hg hs fun j hj => (hown.lt j hj).1
  refine ⟨by simpa [MoV] using hblk1.set_ 4 v', ownsRow_setCell_other hown1 (a := ⟨b, 4, none⟩) hne1 v', hb.setCell hB _, ?_⟩
  refine Lib.OthersKept.setCell (hk.oth.grown hg fun j hj => ?_) _ rfl _
  rcases hown.2 with ⟨rfl, _⟩ | ⟨g', cap, cur, rfl, _, hgg, _⟩
  · simp [Value.ownBlock] at hj
  · simp [Value.ownBlock] at hj
    subst hj
    exact ⟨cur, _, hgg⟩
theorem mo_flag {w W : World} {B b n : Nat} {nm : ByteArray} {first : Phase} {till : Int} {tv : Value} {off : Int} {fm : ByteArray} {over : Bool} {v : Value} {xs : List Value} (hB : B ≤ b) (u : Bool) (hblk : Blk W b 68 (MoV nm first v till tv off fm over)) (hown : W.ownsRow B 83 4 v n xs) (hk : KeptS B b w W) :
    Blk (W.setCell ⟨b, 9, none⟩ (.bool u)) b 68 (MoV nm first v till tv off fm u) ∧ (W.setCell ⟨b, 9, none⟩ (.bool u)).ownsRow B 83 4 v n xs ∧ KeptS B b w (W.setCell ⟨b, 9, none⟩ (.bool u)) :=
  ⟨by simpa [MoV] using hblk.set_ 9 (.bool u), ownsRow_setCell_other hown (a := ⟨b, 9, none⟩) (own_blk_ne hown hblk (by decide)) _, hk.setCell hB _ _⟩
theorem cut_cases (at_ : Int) (ss : List Shift) : (ss = [] ∧ cutAt at_ ss = []) ∨ (∃ l s, ss = l ++ [s] ∧ ¬ s.sec = at_ ∧ cutAt at_ ss = l ++ [s]) ∨ (∃ l s, ss = l ++ [s] ∧ s.sec = at_ ∧ cutAt at_ ss = l) := by
  rcases List.eq_nil_or_concat ss with rfl | ⟨l, s, rfl⟩
  · exact .inl ⟨rfl, rfl⟩
  · simp only [List.concat_eq_append]
    by_cases h : s.sec = at_
    · exact .inr (.inr ⟨l, s, rfl, h, by rw [cutAt_snoc, if_pos h]⟩)
    · exact .inr (.inl ⟨l, s, rfl, h, by rw [cutAt_snoc, if_neg h]⟩)
set_option maxHeartbeats 4000000 in
set_option maxRecDepth 100000 in
theorem put_any (B b : Nat) (nm : ByteArray) (first : Phase) (till : Int) (tv : Value) (off : Int) (fm : ByteArray) (m : List Shift × Bool) (at_ : Int) (p : Phase) (w : World) (h : Mo B b nm first till tv off fm m w) (hBb : B ≤ b) (hB : B ≤ w.heap.size) (hn : m.1.length ≤ 30000) :
    Calls Tryz.prog 28 #[.pointer (some ⟨b, 0, none⟩), .int .i64 at_, .agg #[.int .i64 p.off, .int .i64 p.save, .string p.abbr]] w fun e w' => e = .returned (.tuple #[]) ∧ Mo B b nm first till tv off fm (putP first till m at_ p) w' ∧ KeptS B b w w' := by
  have hblt : b < w.heap.size := by obtain ⟨v, h1, _⟩ := h; exact h1.lt
  have hone := One.new w 30 #[.int .i64 p.off, .int .i64 p.save, .string p.abbr]
  have hM := h.step ((Below.refl w.heap.size w).alloc (Nat.le_refl _) (.cells #[.int .i64 p.off, .int .i64 p.save, .string p.abbr] 30))
  have hK : KeptS B b w (w.alloc (.cells #[.int .i64 p.off, .int .i64 p.save, .string p.abbr] 30)) := (KeptS.refl B b w).alloc hB _
  obtain ⟨W, hW⟩ : ∃ W, w.alloc (.cells #[.int .i64 p.off, .int .i64 p.save, .string p.abbr] 30) = W := ⟨_, rfl⟩
  rw [hW] at hone hM hK
  obtain ⟨ss, over⟩ := m
  obtain ⟨p0, p1, p2⟩ := p
  simp only [putP] at hn hone hM hK ⊢
  have hbx := hone.1
  have hcs := cut_cases at_ ss
  -- THE WALK OF PUT
  -- THE WALK OF PUT
  -- THE WALK OF PUT
  -- THE WALK OF PUT
  -- THE WALK OF PUT
  -- THE WALK OF PUT
  -- THE WALK OF PUT
  -- THE WALK OF PUT
  -- THE WALK OF PUT
  -- THE WALK OF PUT
  -- THE WALK OF PUT
  -- THE WALK OF PUT
  -- THE WALK OF PUT
  obtain ⟨v, hb, ho⟩ := hM
  obtain ⟨A, cp, rfl⟩ := own_sl ho
  obtain ⟨C, hC⟩ : ∃ C, cutAt at_ ss = C := ⟨_, rfl⟩
  rw [hC] at hcs ⊢
  clear hC
  obtain ⟨Q, hQ⟩ : ∃ Q, (if till ≤ at_ ∨ (⟨p0, p1, p2⟩ : Phase) = lastPh first C then (C, over) else if over = true ∨ C.length = 30000 then (C, true) else (C ++ [⟨at_, ⟨p0, p1, p2⟩⟩], over)) = Q := ⟨_, rfl⟩
  rw [hQ]
  have HQ := Lib.hid hQ
  clear hQ h
  have hCn : C.length ≤ 30000 := by rcases hcs with ⟨rfl, hcx⟩ | ⟨l, s, rfl, _, hcx⟩ | ⟨l, s, rfl, _, hcx⟩ <;> rw [hcx] <;> simp at hn ⊢ <;> omega
  rcases hcs with ⟨rfl, hcs⟩ | ⟨l, s, rfl, hne, hcs⟩ | ⟨l, s, rfl, heq, hcs⟩
  · simp only [List.length_nil] at hb ho
    have c0 := fun i => hb.cell i
    have d0 := fun i => hbx.cell i
    simp only [MoV] at c0
    have HO := Lib.hid ho; have HBx := Lib.hid hbx; have HK := Lib.hid hK; have HB := Lib.hid hb; have HCn := Lib.hid hCn; have HCe := Lib.hid hcs
    clear hcs ho hbx hK hb hone hCn hn
    go_enter Tryz.func28, Tryz.ntmps28
    go_upto_if 28 with fail
    go_cut [6] (fun s6 wx => s6 = .int .i64 (C.length : Nat) ∧ Mo B b nm first till tv off fm (C, over) wx ∧ Blk wx w.heap.size 30 #[.int .i64 p0, .int .i64 p1, .string p2] ∧ KeptS B b w wx)
    case first =>
      go_wp2_with fail
      go_meet
      exact ⟨by rw [HCe.out]; rfl, ⟨_, HB.out, by rw [HCe.out]; exact HO.out⟩, HBx.out, HK.out⟩
    case rest =>
      obtain ⟨rfl, ⟨v2, hb2, ho2⟩, hbx2, hk2⟩ := hcut
      obtain ⟨A2, cp2, rfl⟩ := own_sl ho2
      have inst : Nonempty (Qt.In (Below wc.heap.size wc)) := ⟨⟨_, Below.refl _ _⟩⟩
      have zc : ∀ (z : Qt.In (Below wc.heap.size wc)) (i : Nat), z.w.cell? ⟨b, i, none⟩ = #[Value.string nm, .int .i64 first.off, .int .i64 first.save, .string first.abbr, .slice A2 C.length cp2, .int .i64 till, tv, .int .i64 off, .string fm, .bool over][i]? := fun z i => (z.h.cell (p := ⟨b, i, none⟩) hb2.lt).trans (hb2.cell i)
      have zd : ∀ (z : Qt.In (Below wc.heap.size wc)) (i : Nat), z.w.cell? ⟨w.heap.size, i, none⟩ = #[Value.int .i64 p0, .int .i64 p1, .string p2][i]? := fun z i => (z.h.cell (p := ⟨w.heap.size, i, none⟩) hbx2.lt).trans (hbx2.cell i)
      have hla : ∀ z, Below wc.heap.size wc z → Calls Tryz.prog 66 #[.pointer (some ⟨b, 0, none⟩)] z fun e z' => e = .returned (.agg #[.int .i64 (lastPh first C).off, .int .i64 (lastPh first C).save, .string (lastPh first C).abbr]) ∧ Below wc.heap.size wc z' := fun z hz => (last_any B b nm first till tv off fm (C, over) z (Mo.step ⟨_, hb2, ho2⟩ hz) (Nat.le_trans HCn.out (by omega))).mono fun e z' ⟨he, hb⟩ => ⟨he, hz.trans (hb.mono hz.size)⟩
      have HLa := Lib.hid hla
      have HO2 := Lib.hid ho2; have HB2 := Lib.hid hb2; have HK2 := Lib.hid hk2; have HX2 := Lib.hid hbx2
      clear hla c0 d0 ho2 hb2 hk2 hbx2
      by_cases hta : till ≤ at_
      · have htb : decide (till ≤ at_) = true := decide_eq_true hta
        have hq := HQ.out
        rw [if_pos (.inl hta)] at hq
        have HQ2 := Lib.hid hq
        clear hta hq HQ
        go_wp2_with fail
        refine Qt.wp_region_cls (Below wc.heap.size wc) (by kernel_rfl) (by kernel_rfl) (below_dr (n := 1) (Below.refl _ _)) ?_
        repeat (go_big_quiet_step ((go_at_call 66; exact Qt.quiet_cls (HLa.out _ (Qt.In.h _)))))
        refine wpQuiet_nil ?_
        rintro wq ⟨⟨w9, hq⟩, e9⟩
        have HQq : Hid (Below wc.heap.size wc wq) := (show Below wc.heap.size wc wq by rw [e9]; exact hq)
        clear hq e9 zc zd inst
        go_wp2
        refine bodyPost_ret (results_none rfl _ _ _) rfl ?_
        exact ⟨rfl, by rw [← HQ2.out]; exact Mo.step ⟨_, HB2.out, HO2.out⟩ HQq.out, HK2.out.step hB HQq.out⟩
      · have htb : decide (till ≤ at_) = false := decide_eq_false hta
        have hq := HQ.out
        generalize lastPh first C = q at *
        obtain ⟨q0, q1, q2⟩ := q
        have he := fun z => Sam.eq_phase ⟨p0, p1, p2⟩ ⟨q0, q1, q2⟩ z
        simp only [Phase.cells] at he
        by_cases hpq : (⟨p0, p1, p2⟩ : Phase) = ⟨q0, q1, q2⟩
        · rw [if_pos (.inr hpq)] at hq
          rw [decide_eq_true hpq] at he
          have HQ2 := Lib.hid hq
          clear hta hq HQ hpq
          go_wp2_with fail
          refine Qt.wp_region_cls (Below wc.heap.size wc) (by kernel_rfl) (by kernel_rfl) (below_dr (n := 1) (Below.refl _ _)) ?_
          repeat (go_big_quiet_step ((go_at_call 66; exact Qt.quiet_cls (HLa.out _ (Qt.In.h _)))))
          refine wpQuiet_nil ?_
          rintro wq ⟨⟨w9, hq⟩, e9⟩
          have HQq : Hid (Below wc.heap.size wc wq) := (show Below wc.heap.size wc wq by rw [e9]; exact hq)
          clear hq e9 zc zd inst
          go_wp2
          refine bodyPost_ret (results_none rfl _ _ _) rfl ?_
          exact ⟨rfl, by rw [← HQ2.out]; exact Mo.step ⟨_, HB2.out, HO2.out⟩ HQq.out, HK2.out.step hB HQq.out⟩
        · rw [if_neg (by rintro (h1 | h1); exact hta h1; exact hpq h1)] at hq
          rw [decide_eq_false hpq] at he
          have HQ2 := Lib.hid hq
          clear hta hq HQ hpq
          go_wp2_with fail
          refine Qt.wp_region_cls (Below wc.heap.size wc) (by kernel_rfl) (by kernel_rfl) (below_dr (n := 1) (Below.refl _ _)) ?_
          repeat (go_big_quiet_step ((go_at_call 66; exact Qt.quiet_cls (HLa.out _ (Qt.In.h _)))))
          refine wpQuiet_nil ?_
          rintro wq ⟨⟨w9, hq⟩, e9⟩
          have HQq : Hid (Below wc.heap.size wc wq) := (show Below wc.heap.size wc wq by rw [e9]; exact hq)
          clear hq e9 zc zd inst
          have hq := HQ2.out
          have hMq := Mo.step (nm := nm) (first := first) (m := (C, over)) ⟨_, HB2.out, HO2.out⟩ HQq.out
          have hKq := HK2.out.step hB HQq.out
          have hbq := HB2.out.below HQq.out HB2.out.lt
          have hoq := HO2.out.kept (gr_of_below HQq.out) (own_none HO2.out)
          have hxq := HX2.out.below HQq.out HX2.out.lt
          have c3 := fun i => hbq.cell i
          have f3 := fun i => hbq.frozen i
          have d3 := fun i => hxq.cell i
          simp only [MoV] at c3
          have HBq := Lib.hid hbq; have HOq := Lib.hid hoq; have HKq := Lib.hid hKq; have HXq := Lib.hid hxq
          clear hMq hKq hbq hoq hxq he HQ2
          by_cases hov : over = true
          · subst hov
            rw [if_pos (.inl rfl)] at hq
            have HQ3 := Lib.hid hq
            clear hq
            go_wp2_with fail
            go_end0
            exact ⟨rfl, by rw [← HQ3.out]; exact ⟨_, (mo_flag hBb true HBq.out HOq.out HKq.out).1, (mo_flag hBb true HBq.out HOq.out HKq.out).2.1⟩, (mo_flag hBb true HBq.out HOq.out HKq.out).2.2⟩
          · have hov2 : over = false := by simpa using hov
            subst hov2
            by_cases hn3 : C.length = 30000
            · rw [if_pos (.inr hn3)] at hq
              have HQ3 := Lib.hid hq
              have hn3b : ((C.length : Int) == 30000) = true := by rw [hn3]; rfl
              clear hq hn3
              go_wp2_with fail
              go_end0
              exact ⟨rfl, by rw [← HQ3.out]; exact ⟨_, (mo_flag hBb true HBq.out HOq.out HKq.out).1, (mo_flag hBb true HBq.out HOq.out HKq.out).2.1⟩, (mo_flag hBb true HBq.out HOq.out HKq.out).2.2⟩
            · rw [if_neg (by rintro (h1 | h1); cases h1; exact hn3 h1)] at hq
              have HQ3 := Lib.hid hq
              have hn3b : ((C.length : Int) == 30000) = false := by rw [beq_eq_false_iff_ne]; omega
              clear hq hn3
              have hf := mo_flag hBb false HBq.out HOq.out HKq.out
              have hx4 := HXq.out.far (p := ⟨b, 9, none⟩) (by show w.heap.size ≠ b; omega) (.bool false)
              have hsz := HQq.out.size
              have hbl := HK2.out.bel.size
              have m3 : B ≤ (wq.setCell ⟨b, 9, none⟩ (.bool false)).drew.heap.size := by simp; omega
              have m1 : C.length + 1 ≤ maxLen := by have := HCn.out; unfold maxLen; omega
              have m2 : (C.length + 1) * 40 ≤ 140737488355328 := by have := HCn.out; omega
              have M1 := Lib.hid m1; have M2 := Lib.hid m2; have M3 := Lib.hid m3
              obtain ⟨i0, hi0, hz0, hz1, hz2⟩ := info_parts info_shift
              clear m1 m2 m3 hsz hbl
              go_wp2_with fail
              obtain ⟨V, hV⟩ : ∃ V, wq.setCell ⟨b, 9, none⟩ (.bool false) = V := ⟨_, rfl⟩
              rw [hV] at hf hx4 M3 ⊢
              obtain ⟨hb4, ho4, hk4⟩ := hf
              have c4 := fun i => hb4.cell i
              have d4 := fun i => hx4.cell i
              have c4a := fun o i => (hb4.alloc o).cell i
              simp only [MoV] at c4 c4a
              have HB4 := Lib.hid hb4; have HO4 := Lib.hid ho4; have HK4 := Lib.hid hk4
              clear hV c3 f3 d3 hb4 ho4 hk4 hx4
              go_region_law (refine step_append1 V.drew rfl (.tmp 77) (.tmp 81) 31 rfl B 83 i0 _ 4 40 Tryz.underlying31 hi0 hz0 hz1 hz2 rfl (by decide) _ C.length (C.flatMap Shift.cells) (by simp [Act.eval]) HO4.out.drew (by simp [Act.eval]) rfl one_shift M1.out M2.out M3.out ?_; intro v' wB ho5 hg5; have hp := mo_push hBb (HB4.out.drew.alloc _) (HO4.out.drew.alloc _) ho5 hg5 (HK4.out.drew.alloc hB _) (by have h := M3.out; simp at h ⊢; omega); obtain ⟨gt, capt, rfl, _, _⟩ := ho5.form (Nat.succ_pos _); have hb5 := Blk.grown (HB4.out.drew.alloc _) hg5 (fun e => own_blk_ne HO4.out HB4.out (by decide) e.symm); have c5 := fun i => hb5.cell i; have f5 := fun i => hb5.frozen i; simp only [MoV] at c5; have HP := Lib.hid hp; clear hp ho5 hg5 hb5 c4 d4 c4a)
              all_goals
                go_wp2
                go_end0
                exact ⟨rfl, by rw [← HQ3.out]; exact ⟨_, HP.out.1, by simpa [Shift.cells] using HP.out.2.1⟩, HP.out.2.2⟩
  · have hlen : (l ++ [s]).length = l.length + 1 := by simp
    simp only at hb ho
    rw [hlen] at hb ho
    obtain ⟨g, cap, hA, hBg, hg⟩ := ho.form (Nat.succ_pos _)
    simp only [Value.slice.injEq, true_and] at hA
    obtain ⟨rfl, rfl⟩ := hA
    have hcell : W.cell? ⟨g, l.length * 4 + 0, none⟩ = s.cells[0]? := by
      rw [ho.cellAt _ (by rw [Nat.succ_mul]; omega), flat_get Shift.cells 4 Shift.cells_length _ l.length 0 (by omega), List.getElem?_append_right (Nat.le_refl _), Nat.sub_self]
      rfl
    obtain ⟨s0, ⟨s1, s2, s3⟩⟩ := s
    simp only [Shift.cells, List.getElem?_cons_zero, Nat.add_zero] at hcell hne
    have hneb : (s0 == at_) = false := by simpa using hne
    have hln : l.length ≤ 30000 := by rw [hlen] at hn; omega
    have c0 := fun i => hb.cell i
    have d0 := fun i => hbx.cell i
    simp only [MoV] at c0
    have HO := Lib.hid ho; have HBx := Lib.hid hbx; have HK := Lib.hid hK; have HB := Lib.hid hb; have HCn := Lib.hid hCn; have HCe := Lib.hid hcs
    clear hcs ho hbx hK hb hone hCn hn hne
    go_enter Tryz.func28, Tryz.ntmps28
    go_upto_if 28 with fail
    go_cut [6] (fun s6 wx => s6 = .int .i64 (C.length : Nat) ∧ Mo B b nm first till tv off fm (C, over) wx ∧ Blk wx w.heap.size 30 #[.int .i64 p0, .int .i64 p1, .string p2] ∧ KeptS B b w wx)
    case first =>
      go_wp2_with fail
      go_meet
      exact ⟨by rw [HCe.out, List.length_append]; rfl, ⟨_, HB.out, by rw [HCe.out, List.length_append]; exact HO.out⟩, HBx.out, HK.out⟩
    case rest =>
      obtain ⟨rfl, ⟨v2, hb2, ho2⟩, hbx2, hk2⟩ := hcut
      obtain ⟨A2, cp2, rfl⟩ := own_sl ho2
      have inst : Nonempty (Qt.In (Below wc.heap.size wc)) := ⟨⟨_, Below.refl _ _⟩⟩
      have zc : ∀ (z : Qt.In (Below wc.heap.size wc)) (i : Nat), z.w.cell? ⟨b, i, none⟩ = #[Value.string nm, .int .i64 first.off, .int .i64 first.save, .string first.abbr, .slice A2 C.length cp2, .int .i64 till, tv, .int .i64 off, .string fm, .bool over][i]? := fun z i => (z.h.cell (p := ⟨b, i, none⟩) hb2.lt).trans (hb2.cell i)
      have zd : ∀ (z : Qt.In (Below wc.heap.size wc)) (i : Nat), z.w.cell? ⟨w.heap.size, i, none⟩ = #[Value.int .i64 p0, .int .i64 p1, .string p2][i]? := fun z i => (z.h.cell (p := ⟨w.heap.size, i, none⟩) hbx2.lt).trans (hbx2.cell i)
      have hla : ∀ z, Below wc.heap.size wc z → Calls Tryz.prog 66 #[.pointer (some ⟨b, 0, none⟩)] z fun e z' => e = .returned (.agg #[.int .i64 (lastPh first C).off, .int .i64 (lastPh first C).save, .string (lastPh first C).abbr]) ∧ Below wc.heap.size wc z' := fun z hz => (last_any B b nm first till tv off fm (C, over) z (Mo.step ⟨_, hb2, ho2⟩ hz) (Nat.le_trans HCn.out (by omega))).mono fun e z' ⟨he, hb⟩ => ⟨he, hz.trans (hb.mono hz.size)⟩
      have HLa := Lib.hid hla
      have HO2 := Lib.hid ho2; have HB2 := Lib.hid hb2; have HK2 := Lib.hid hk2; have HX2 := Lib.hid hbx2
      clear hla c0 d0 ho2 hb2 hk2 hbx2
      by_cases hta : till ≤ at_
      · have htb : decide (till ≤ at_) = true := decide_eq_true hta
        have hq := HQ.out
        rw [if_pos (.inl hta)] at hq
        have HQ2 := Lib.hid hq
        clear hta hq HQ
        go_wp2_with fail
        refine Qt.wp_region_cls (Below wc.heap.size wc) (by kernel_rfl) (by kernel_rfl) (below_dr (n := 1) (Below.refl _ _)) ?_
        repeat (go_big_quiet_step ((go_at_call 66; exact Qt.quiet_cls (HLa.out _ (Qt.In.h _)))))
        refine wpQuiet_nil ?_
        rintro wq ⟨⟨w9, hq⟩, e9⟩
        have HQq : Hid (Below wc.heap.size wc wq) := (show Below wc.heap.size wc wq by rw [e9]; exact hq)
        clear hq e9 zc zd inst
        go_wp2
        refine bodyPost_ret (results_none rfl _ _ _) rfl ?_
        exact ⟨rfl, by rw [← HQ2.out]; exact Mo.step ⟨_, HB2.out, HO2.out⟩ HQq.out, HK2.out.step hB HQq.out⟩
      · have htb : decide (till ≤ at_) = false := decide_eq_false hta
        have hq := HQ.out
        generalize lastPh first C = q at *
        obtain ⟨q0, q1, q2⟩ := q
        have he := fun z => Sam.eq_phase ⟨p0, p1, p2⟩ ⟨q0, q1, q2⟩ z
        simp only [Phase.cells] at he
        by_cases hpq : (⟨p0, p1, p2⟩ : Phase) = ⟨q0, q1, q2⟩
        · rw [if_pos (.inr hpq)] at hq
          rw [decide_eq_true hpq] at he
          have HQ2 := Lib.hid hq
          clear hta hq HQ hpq
          go_wp2_with fail
          refine Qt.wp_region_cls (Below wc.heap.size wc) (by kernel_rfl) (by kernel_rfl) (below_dr (n := 1) (Below.refl _ _)) ?_
          repeat (go_big_quiet_step ((go_at_call 66; exact Qt.quiet_cls (HLa.out _ (Qt.In.h _)))))
          refine wpQuiet_nil ?_
          rintro wq ⟨⟨w9, hq⟩, e9⟩
          have HQq : Hid (Below wc.heap.size wc wq) := (show Below wc.heap.size wc wq by rw [e9]; exact hq)
          clear hq e9 zc zd inst
          go_wp2
          refine bodyPost_ret (results_none rfl _ _ _) rfl ?_
          exact ⟨rfl, by rw [← HQ2.out]; exact Mo.step ⟨_, HB2.out, HO2.out⟩ HQq.out, HK2.out.step hB HQq.out⟩
        · rw [if_neg (by rintro (h1 | h1); exact hta h1; exact hpq h1)] at hq
          rw [decide_eq_false hpq] at he
          have HQ2 := Lib.hid hq
          clear hta hq HQ hpq
          go_wp2_with fail
          refine Qt.wp_region_cls (Below wc.heap.size wc) (by kernel_rfl) (by kernel_rfl) (below_dr (n := 1) (Below.refl _ _)) ?_
          repeat (go_big_quiet_step ((go_at_call 66; exact Qt.quiet_cls (HLa.out _ (Qt.In.h _)))))
          refine wpQuiet_nil ?_
          rintro wq ⟨⟨w9, hq⟩, e9⟩
          have HQq : Hid (Below wc.heap.size wc wq) := (show Below wc.heap.size wc wq by rw [e9]; exact hq)
          clear hq e9 zc zd inst
          have hq := HQ2.out
          have hMq := Mo.step (nm := nm) (first := first) (m := (C, over)) ⟨_, HB2.out, HO2.out⟩ HQq.out
          have hKq := HK2.out.step hB HQq.out
          have hbq := HB2.out.below HQq.out HB2.out.lt
          have hoq := HO2.out.kept (gr_of_below HQq.out) (own_none HO2.out)
          have hxq := HX2.out.below HQq.out HX2.out.lt
          have c3 := fun i => hbq.cell i
          have f3 := fun i => hbq.frozen i
          have d3 := fun i => hxq.cell i
          simp only [MoV] at c3
          have HBq := Lib.hid hbq; have HOq := Lib.hid hoq; have HKq := Lib.hid hKq; have HXq := Lib.hid hxq
          clear hMq hKq hbq hoq hxq he HQ2
          by_cases hov : over = true
          · subst hov
            rw [if_pos (.inl rfl)] at hq
            have HQ3 := Lib.hid hq
            clear hq
            go_wp2_with fail
            go_end0
            exact ⟨rfl, by rw [← HQ3.out]; exact ⟨_, (mo_flag hBb true HBq.out HOq.out HKq.out).1, (mo_flag hBb true HBq.out HOq.out HKq.out).2.1⟩, (mo_flag hBb true HBq.out HOq.out HKq.out).2.2⟩
          · have hov2 : over = false := by simpa using hov
            subst hov2
            by_cases hn3 : C.length = 30000
            · rw [if_pos (.inr hn3)] at hq
              have HQ3 := Lib.hid hq
              have hn3b : ((C.length : Int) == 30000) = true := by rw [hn3]; rfl
              clear hq hn3
              go_wp2_with fail
              go_end0
              exact ⟨rfl, by rw [← HQ3.out]; exact ⟨_, (mo_flag hBb true HBq.out HOq.out HKq.out).1, (mo_flag hBb true HBq.out HOq.out HKq.out).2.1⟩, (mo_flag hBb true HBq.out HOq.out HKq.out).2.2⟩
            · rw [if_neg (by rintro (h1 | h1); cases h1; exact hn3 h1)] at hq
              have HQ3 := Lib.hid hq
              have hn3b : ((C.length : Int) == 30000) = false := by rw [beq_eq_false_iff_ne]; omega
              clear hq hn3
              have hf := mo_flag hBb false HBq.out HOq.out HKq.out
              have hx4 := HXq.out.far (p := ⟨b, 9, none⟩) (by show w.heap.size ≠ b; omega) (.bool false)
              have hsz := HQq.out.size
              have hbl := HK2.out.bel.size
              have m3 : B ≤ (wq.setCell ⟨b, 9, none⟩ (.bool false)).drew.heap.size := by simp; omega
              have m1 : C.length + 1 ≤ maxLen := by have := HCn.out; unfold maxLen; omega
              have m2 : (C.length + 1) * 40 ≤ 140737488355328 := by have := HCn.out; omega
              have M1 := Lib.hid m1; have M2 := Lib.hid m2; have M3 := Lib.hid m3
              obtain ⟨i0, hi0, hz0, hz1, hz2⟩ := info_parts info_shift
              clear m1 m2 m3 hsz hbl
              go_wp2_with fail
              obtain ⟨V, hV⟩ : ∃ V, wq.setCell ⟨b, 9, none⟩ (.bool false) = V := ⟨_, rfl⟩
              rw [hV] at hf hx4 M3 ⊢
              obtain ⟨hb4, ho4, hk4⟩ := hf
              have c4 := fun i => hb4.cell i
              have d4 := fun i => hx4.cell i
              have c4a := fun o i => (hb4.alloc o).cell i
              simp only [MoV] at c4 c4a
              have HB4 := Lib.hid hb4; have HO4 := Lib.hid ho4; have HK4 := Lib.hid hk4
              clear hV c3 f3 d3 hb4 ho4 hk4 hx4
              go_region_law (refine step_append1 V.drew rfl (.tmp 77) (.tmp 81) 31 rfl B 83 i0 _ 4 40 Tryz.underlying31 hi0 hz0 hz1 hz2 rfl (by decide) _ C.length (C.flatMap Shift.cells) (by simp [Act.eval]) HO4.out.drew (by simp [Act.eval]) rfl one_shift M1.out M2.out M3.out ?_; intro v' wB ho5 hg5; have hp := mo_push hBb (HB4.out.drew.alloc _) (HO4.out.drew.alloc _) ho5 hg5 (HK4.out.drew.alloc hB _) (by have h := M3.out; simp at h ⊢; omega); obtain ⟨gt, capt, rfl, _, _⟩ := ho5.form (Nat.succ_pos _); have hb5 := Blk.grown (HB4.out.drew.alloc _) hg5 (fun e => own_blk_ne HO4.out HB4.out (by decide) e.symm); have c5 := fun i => hb5.cell i; have f5 := fun i => hb5.frozen i; simp only [MoV] at c5; have HP := Lib.hid hp; clear hp ho5 hg5 hb5 c4 d4 c4a)
              all_goals
                go_wp2
                go_end0
                exact ⟨rfl, by rw [← HQ3.out]; exact ⟨_, HP.out.1, by simpa [Shift.cells] using HP.out.2.1⟩, HP.out.2.2⟩
  · have hlen : (l ++ [s]).length = l.length + 1 := by simp
    simp only at hb ho
    rw [hlen] at hb ho
    obtain ⟨g, cap, hA, hBg, hg⟩ := ho.form (Nat.succ_pos _)
    simp only [Value.slice.injEq, true_and] at hA
    obtain ⟨rfl, rfl⟩ := hA
    have hcell : W.cell? ⟨g, l.length * 4 + 0, none⟩ = s.cells[0]? := by
      rw [ho.cellAt _ (by rw [Nat.succ_mul]; omega), flat_get Shift.cells 4 Shift.cells_length _ l.length 0 (by omega), List.getElem?_append_right (Nat.le_refl _), Nat.sub_self]
      rfl
    have hcap := own_cap ho
    have hne := own_blk_ne ho hb (by decide)
    have ho2 := ownsRow_setCell_other (own_take ho (Nat.le_succ l.length)) (a := ⟨b, 4, none⟩) hne (.slice (some ⟨g, 0, none⟩) l.length cp)
    rw [List.flatMap_append, ← shift_len4 l, List.take_left' rfl] at ho2
    have hb2 := hb.set_ 4 (.slice (some ⟨g, 0, none⟩) l.length cp)
    simp only [MoV, List.setIfInBounds_toArray, List.set_cons_succ, List.set_cons_zero] at hb2
    have hbx2 := hbx.far (p := ⟨b, 4, none⟩) (by show w.heap.size ≠ b; omega) (.slice (some ⟨g, 0, none⟩) l.length cp)
    have hK2 := hK.setCell hBb 4 (.slice (some ⟨g, 0, none⟩) l.length cp)
    obtain ⟨s0, ⟨s1, s2, s3⟩⟩ := s
    simp only [Shift.cells, List.getElem?_cons_zero, Nat.add_zero] at hcell heq
    have heqb : (s0 == at_) = true := by simpa using heq
    have hln : l.length ≤ 30000 := by rw [hlen] at hn; omega
    have c0 := fun i => hb.cell i
    have f0 := fun i => hb.frozen i
    have d0 := fun i => hbx.cell i
    simp only [MoV] at c0
    have HO := Lib.hid ho2; have HBx := Lib.hid hbx2; have HK := Lib.hid hK2; have HB := Lib.hid hb2; have HCn := Lib.hid hCn; have HCe := Lib.hid hcs
    clear hcs ho hbx hK hb hone hCn hn heq ho2 hbx2 hK2 hb2 hne
    go_enter Tryz.func28, Tryz.ntmps28
    go_upto_if 28 with fail
    go_cut [6] (fun s6 wx => s6 = .int .i64 (C.length : Nat) ∧ Mo B b nm first till tv off fm (C, over) wx ∧ Blk wx w.heap.size 30 #[.int .i64 p0, .int .i64 p1, .string p2] ∧ KeptS B b w wx)
    case first =>
      go_wp2_with fail
      go_meet
      exact ⟨by rw [HCe.out], ⟨_, by rw [HCe.out]; exact HB.out, by rw [HCe.out]; exact HO.out⟩, HBx.out, HK.out⟩
    case rest =>
      obtain ⟨rfl, ⟨v2, hb2, ho2⟩, hbx2, hk2⟩ := hcut
      obtain ⟨A2, cp2, rfl⟩ := own_sl ho2
      have inst : Nonempty (Qt.In (Below wc.heap.size wc)) := ⟨⟨_, Below.refl _ _⟩⟩
      have zc : ∀ (z : Qt.In (Below wc.heap.size wc)) (i : Nat), z.w.cell? ⟨b, i, none⟩ = #[Value.string nm, .int .i64 first.off, .int .i64 first.save, .string first.abbr, .slice A2 C.length cp2, .int .i64 till, tv, .int .i64 off, .string fm, .bool over][i]? := fun z i => (z.h.cell (p := ⟨b, i, none⟩) hb2.lt).trans (hb2.cell i)
      have zd : ∀ (z : Qt.In (Below wc.heap.size wc)) (i : Nat), z.w.cell? ⟨w.heap.size, i, none⟩ = #[Value.int .i64 p0, .int .i64 p1, .string p2][i]? := fun z i => (z.h.cell (p := ⟨w.heap.size, i, none⟩) hbx2.lt).trans (hbx2.cell i)
      have hla : ∀ z, Below wc.heap.size wc z → Calls Tryz.prog 66 #[.pointer (some ⟨b, 0, none⟩)] z fun e z' => e = .returned (.agg #[.int .i64 (lastPh first C).off, .int .i64 (lastPh first C).save, .string (lastPh first C).abbr]) ∧ Below wc.heap.size wc z' := fun z hz => (last_any B b nm first till tv off fm (C, over) z (Mo.step ⟨_, hb2, ho2⟩ hz) (Nat.le_trans HCn.out (by omega))).mono fun e z' ⟨he, hb⟩ => ⟨he, hz.trans (hb.mono hz.size)⟩
      have HLa := Lib.hid hla
      have HO2 := Lib.hid ho2; have HB2 := Lib.hid hb2; have HK2 := Lib.hid hk2; have HX2 := Lib.hid hbx2
      clear hla c0 d0 ho2 hb2 hk2 hbx2
      by_cases hta : till ≤ at_
      · have htb : decide (till ≤ at_) = true := decide_eq_true hta
        have hq := HQ.out
        rw [if_pos (.inl hta)] at hq
        have HQ2 := Lib.hid hq
        clear hta hq HQ
        go_wp2_with fail
        refine Qt.wp_region_cls (Below wc.heap.size wc) (by kernel_rfl) (by kernel_rfl) (below_dr (n := 1) (Below.refl _ _)) ?_
        repeat (go_big_quiet_step ((go_at_call 66; exact Qt.quiet_cls (HLa.out _ (Qt.In.h _)))))
        refine wpQuiet_nil ?_
        rintro wq ⟨⟨w9, hq⟩, e9⟩
        have HQq : Hid (Below wc.heap.size wc wq) := (show Below wc.heap.size wc wq by rw [e9]; exact hq)
        clear hq e9 zc zd inst
        go_wp2
        refine bodyPost_ret (results_none rfl _ _ _) rfl ?_
        exact ⟨rfl, by rw [← HQ2.out]; exact Mo.step ⟨_, HB2.out, HO2.out⟩ HQq.out, HK2.out.step hB HQq.out⟩
      · have htb : decide (till ≤ at_) = false := decide_eq_false hta
        have hq := HQ.out
        generalize lastPh first C = q at *
        obtain ⟨q0, q1, q2⟩ := q
        have he := fun z => Sam.eq_phase ⟨p0, p1, p2⟩ ⟨q0, q1, q2⟩ z
        simp only [Phase.cells] at he
        by_cases hpq : (⟨p0, p1, p2⟩ : Phase) = ⟨q0, q1, q2⟩
        · rw [if_pos (.inr hpq)] at hq
          rw [decide_eq_true hpq] at he
          have HQ2 := Lib.hid hq
          clear hta hq HQ hpq
          go_wp2_with fail
          refine Qt.wp_region_cls (Below wc.heap.size wc) (by kernel_rfl) (by kernel_rfl) (below_dr (n := 1) (Below.refl _ _)) ?_
          repeat (go_big_quiet_step ((go_at_call 66; exact Qt.quiet_cls (HLa.out _ (Qt.In.h _)))))
          refine wpQuiet_nil ?_
          rintro wq ⟨⟨w9, hq⟩, e9⟩
          have HQq : Hid (Below wc.heap.size wc wq) := (show Below wc.heap.size wc wq by rw [e9]; exact hq)
          clear hq e9 zc zd inst
          go_wp2
          refine bodyPost_ret (results_none rfl _ _ _) rfl ?_
          exact ⟨rfl, by rw [← HQ2.out]; exact Mo.step ⟨_, HB2.out, HO2.out⟩ HQq.out, HK2.out.step hB HQq.out⟩
        · rw [if_neg (by rintro (h1 | h1); exact hta h1; exact hpq h1)] at hq
          rw [decide_eq_false hpq] at he
          have HQ2 := Lib.hid hq
          clear hta hq HQ hpq
          go_wp2_with fail
          refine Qt.wp_region_cls (Below wc.heap.size wc) (by kernel_rfl) (by kernel_rfl) (below_dr (n := 1) (Below.refl _ _)) ?_
          repeat (go_big_quiet_step ((go_at_call 66; exact Qt.quiet_cls (HLa.out _ (Qt.In.h _)))))
          refine wpQuiet_nil ?_
          rintro wq ⟨⟨w9, hq⟩, e9⟩
          have HQq : Hid (Below wc.heap.size wc wq) := (show Below wc.heap.size wc wq by rw [e9]; exact hq)
          clear hq e9 zc zd inst
          have hq := HQ2.out
          have hMq := Mo.step (nm := nm) (first := first) (m := (C, over)) ⟨_, HB2.out, HO2.out⟩ HQq.out
          have hKq := HK2.out.step hB HQq.out
          have hbq := HB2.out.below HQq.out HB2.out.lt
          have hoq := HO2.out.kept (gr_of_below HQq.out) (own_none HO2.out)
          have hxq := HX2.out.below HQq.out HX2.out.lt
          have c3 := fun i => hbq.cell i
          have f3 := fun i => hbq.frozen i
          have d3 := fun i => hxq.cell i
          simp only [MoV] at c3
          have HBq := Lib.hid hbq; have HOq := Lib.hid hoq; have HKq := Lib.hid hKq; have HXq := Lib.hid hxq
          clear hMq hKq hbq hoq hxq he HQ2
          by_cases hov : over = true
          · subst hov
            rw [if_pos (.inl rfl)] at hq
            have HQ3 := Lib.hid hq
            clear hq
            go_wp2_with fail
            go_end0
            exact ⟨rfl, by rw [← HQ3.out]; exact ⟨_, (mo_flag hBb true HBq.out HOq.out HKq.out).1, (mo_flag hBb true HBq.out HOq.out HKq.out).2.1⟩, (mo_flag hBb true HBq.out HOq.out HKq.out).2.2⟩
          · have hov2 : over = false := by simpa using hov
            subst hov2
            by_cases hn3 : C.length = 30000
            · rw [if_pos (.inr hn3)] at hq
              have HQ3 := Lib.hid hq
              have hn3b : ((C.length : Int) == 30000) = true := by rw [hn3]; rfl
              clear hq hn3
              go_wp2_with fail
              go_end0
              exact ⟨rfl, by rw [← HQ3.out]; exact ⟨_, (mo_flag hBb true HBq.out HOq.out HKq.out).1, (mo_flag hBb true HBq.out HOq.out HKq.out).2.1⟩, (mo_flag hBb true HBq.out HOq.out HKq.out).2.2⟩
            · rw [if_neg (by rintro (h1 | h1); cases h1; exact hn3 h1)] at hq
              have HQ3 := Lib.hid hq
              have hn3b : ((C.length : Int) == 30000) = false := by rw [beq_eq_false_iff_ne]; omega
              clear hq hn3
              have hf := mo_flag hBb false HBq.out HOq.out HKq.out
              have hx4 := HXq.out.far (p := ⟨b, 9, none⟩) (by show w.heap.size ≠ b; omega) (.bool false)
              have hsz := HQq.out.size
              have hbl := HK2.out.bel.size
              have m3 : B ≤ (wq.setCell ⟨b, 9, none⟩ (.bool false)).drew.heap.size := by simp; omega
              have m1 : C.length + 1 ≤ maxLen := by have := HCn.out; unfold maxLen; omega
              have m2 : (C.length + 1) * 40 ≤ 140737488355328 := by have := HCn.out; omega
              have M1 := Lib.hid m1; have M2 := Lib.hid m2; have M3 := Lib.hid m3
              obtain ⟨i0, hi0, hz0, hz1, hz2⟩ := info_parts info_shift
              clear m1 m2 m3 hsz hbl
              go_wp2_with fail
              obtain ⟨V, hV⟩ : ∃ V, wq.setCell ⟨b, 9, none⟩ (.bool false) = V := ⟨_, rfl⟩
              rw [hV] at hf hx4 M3 ⊢
              obtain ⟨hb4, ho4, hk4⟩ := hf
              have c4 := fun i => hb4.cell i
              have d4 := fun i => hx4.cell i
              have c4a := fun o i => (hb4.alloc o).cell i
              simp only [MoV] at c4 c4a
              have HB4 := Lib.hid hb4; have HO4 := Lib.hid ho4; have HK4 := Lib.hid hk4
              clear hV c3 f3 d3 hb4 ho4 hk4 hx4
              go_region_law (refine step_append1 V.drew rfl (.tmp 77) (.tmp 81) 31 rfl B 83 i0 _ 4 40 Tryz.underlying31 hi0 hz0 hz1 hz2 rfl (by decide) _ C.length (C.flatMap Shift.cells) (by simp [Act.eval]) HO4.out.drew (by simp [Act.eval]) rfl one_shift M1.out M2.out M3.out ?_; intro v' wB ho5 hg5; have hp := mo_push hBb (HB4.out.drew.alloc _) (HO4.out.drew.alloc _) ho5 hg5 (HK4.out.drew.alloc hB _) (by have h := M3.out; simp at h ⊢; omega); obtain ⟨gt, capt, rfl, _, _⟩ := ho5.form (Nat.succ_pos _); have hb5 := Blk.grown (HB4.out.drew.alloc _) hg5 (fun e => own_blk_ne HO4.out HB4.out (by decide) e.symm); have c5 := fun i => hb5.cell i; have f5 := fun i => hb5.frozen i; simp only [MoV] at c5; have HP := Lib.hid hp; clear hp ho5 hg5 hb5 c4 d4 c4a)
              all_goals
                go_wp2
                go_end0
                exact ⟨rfl, by rw [← HQ3.out]; exact ⟨_, HP.out.1, by simpa [Shift.cells] using HP.out.2.1⟩, HP.out.2.2⟩
end Go.Proofs.YtdicedpklpadgaaGreatDoor.Cmq
