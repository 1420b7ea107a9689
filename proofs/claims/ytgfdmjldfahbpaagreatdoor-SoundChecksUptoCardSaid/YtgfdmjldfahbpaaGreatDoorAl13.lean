/-
  Layer 13: the contract of the laws' function alive. Conditions: the cell of bytealg.MaxLen holds a number.
-/
import Derived.Test.YtgfdmjldfahbpaaGreatDoorSndV
namespace Go.Proofs.YtgfdmjldfahbpaaGreatDoor.Snd
open Go.RowKit Mem Civ Mom Img Plc Rul Src Go.Maps

def nA : ByteArray := ⟨#[65]⟩
def nB : ByteArray := ⟨#[66]⟩
/-- The two sources that alive looks at. -/
def s0 (A : Option Addr) (c : Nat) : Src := ⟨[], [⟨nA, [⟨3600, 0, 0, ⟨#[]⟩, ⟨#[88]⟩, false, 0, ⟨0, 0, 0, 0, 0, 0⟩⟩], A, c⟩], [⟨nA, nB⟩]⟩
def s1 : Src := ⟨[], [], [⟨nA, nB⟩, ⟨nB, nA⟩]⟩
theorem check_s0 (A : Option Addr) (c : Nat) : checkB (s0 A c) = noFlaw := by kernel_rfl
theorem check_s1 : checkB s1 = ⟨16, 3, 0, 0⟩ := by kernel_rfl
theorem res_s0 (A : Option Addr) (c : Nat) : resolveB (s0 A c) nB = some 0 := by kernel_rfl
theorem names_s0 (A : Option Addr) (c : Nat) : namesL (allNames (s0 A c)) = [nA, nB] := by kernel_rfl
/-- A row of cells in a block, as it is read. -/
theorem reads_blk {w : World} {g : Nat} {t : TypeId} {cs : Array Value} {n size : Nat} (h : Blk w g t cs) (hs : cs.size = n * size) (hn : n ≤ maxLen) : Reads w w.heap.size size (some ⟨g, 0, none⟩) n cs.toList :=
  Reads.of_own (own_of_blk h (Nat.le_refl g) hs hn)
def eraC : Array Value := #[.int .i64 3600, .int .i64 0, .int .i64 0, .string ⟨#[]⟩, .string ⟨#[88]⟩, .bool false, .int .i64 0, .int .i64 0, .int .i64 0, .int .i64 0, .int .i64 0, .int .i64 0, .int .i64 0]
theorem ok_s0 {w : World} {g0 g1 g2 : Nat} (h0 : Blk w g0 45 eraC) (h1 : Blk w g1 41 #[.string nA, .slice (some ⟨g0, 0, none⟩) 1 1]) (h2 : Blk w g2 50 #[.string nA, .string nB]) :
    SrcOk (s0 (some ⟨g0, 0, none⟩) 1) none (some ⟨g1, 0, none⟩) (some ⟨g2, 0, none⟩) w where
  rr := Reads.none_
  rz := reads_blk h1 rfl (show 1 ≤ maxLen by decide)
  rl := reads_blk h2 rfl (show 1 ≤ maxLen by decide)
  re := fun z hz => by
    rcases List.mem_singleton.1 hz with rfl
    exact reads_blk h0 rfl (show 1 ≤ maxLen by decide)
  nr := by simp [s0]
  nz := by simp [s0]
  nl := by simp [s0]
  ne := fun z hz => by rcases List.mem_singleton.1 hz with rfl; simp
  tr := fun r hr => by cases hr
  tz := fun z hz => by rcases List.mem_singleton.1 hz with rfl; exact (show nA.size ≤ 2097152 by decide)
  te := fun z hz e he => by
    rcases List.mem_singleton.1 hz with rfl
    rcases List.mem_singleton.1 he with rfl
    exact ⟨(show (⟨#[]⟩ : ByteArray).size ≤ 2097152 by decide), (show (⟨#[88]⟩ : ByteArray).size ≤ 2097152 by decide)⟩
  tl := fun l hl => by
    rcases List.mem_singleton.1 hl with rfl
    exact ⟨(show nA.size ≤ 2097152 by decide), (show nB.size ≤ 2097152 by decide)⟩
theorem ok_s1 {w : World} {g2 : Nat} (h2 : Blk w g2 50 #[.string nA, .string nB, .string nB, .string nA]) : SrcOk s1 none none (some ⟨g2, 0, none⟩) w where
  rr := Reads.none_
  rz := Reads.none_
  rl := reads_blk h2 rfl (show 2 ≤ maxLen by decide)
  re := fun z hz => by cases hz
  nr := by simp [s1]
  nz := by simp [s1]
  nl := by simp [s1]
  ne := fun z hz => by cases hz
  tr := fun r hr => by cases hr
  tz := fun z hz => by cases hz
  te := fun z hz => by cases hz
  tl := fun l hl => by
    simp only [s1, List.mem_cons, List.not_mem_nil, or_false] at hl
    rcases hl with rfl | rfl <;> exact ⟨by decide, by decide⟩
theorem resolve_s0 {w : World} {g0 g1 g2 : Nat} (h : SrcOk (s0 (some ⟨g0, 0, none⟩) 1) none (some ⟨g1, 0, none⟩) (some ⟨g2, 0, none⟩) w) :
    Calls Tryz.prog 11 #[.agg #[.slice none 0 0, .slice (some ⟨g1, 0, none⟩) 1 1, .slice (some ⟨g2, 0, none⟩) 1 1], .string ⟨#[66]⟩] w fun e w' => e = .returned (.tuple #[.int .i64 0, .bool true]) ∧ Below w.heap.size w w' := by
  have h1 := resolve_any _ _ _ _ 0 1 1 nB w h
  rw [res_s0] at h1
  exact h1
theorem names_s0c {w : World} {g0 g1 g2 : Nat} (h : SrcOk (s0 (some ⟨g0, 0, none⟩) 1) none (some ⟨g1, 0, none⟩) (some ⟨g2, 0, none⟩) w) :
    Calls Tryz.prog 14 #[.agg #[.slice none 0 0, .slice (some ⟨g1, 0, none⟩) 1 1, .slice (some ⟨g2, 0, none⟩) 1 1]] w fun e w' => ∃ A c, e = .returned (.slice A 2 c) ∧ Reads w' w'.heap.size 1 A 2 [.string nA, .string nB] ∧ Below w.heap.size w w' := by
  refine (names_any _ _ _ _ 0 1 1 w h).mono ?_
  intro e w' hp
  obtain ⟨v, he, hown, hb⟩ := namesP_is hp
  rw [names_s0] at hown
  obtain ⟨A, c, rfl⟩ := own_slice hown
  exact ⟨A, c, he, Reads.of_own hown, hb⟩
theorem check_s0c {w : World} {g0 g1 g2 : Nat} (m : Int) (hm : w.cell? ⟨0, 0, none⟩ = some (.int .i64 m)) (h : SrcOk (s0 (some ⟨g0, 0, none⟩) 1) none (some ⟨g1, 0, none⟩) (some ⟨g2, 0, none⟩) w) :
    Calls Tryz.prog 9 #[.agg #[.slice none 0 0, .slice (some ⟨g1, 0, none⟩) 1 1, .slice (some ⟨g2, 0, none⟩) 1 1]] w fun e w' => e = .returned (.agg #[.int .i64 0, .int .i64 0, .int .i64 0, .int .i64 0]) ∧ Below w.heap.size w w' := by
  have h1 := check_any _ _ _ _ 0 1 1 m w h hm
  rw [check_s0] at h1
  exact h1
theorem check_s1c {w : World} {g2 : Nat} (m : Int) (hm : w.cell? ⟨0, 0, none⟩ = some (.int .i64 m)) (h : SrcOk s1 none none (some ⟨g2, 0, none⟩) w) :
    Calls Tryz.prog 9 #[.agg #[.slice none 0 0, .slice none 0 0, .slice (some ⟨g2, 0, none⟩) 2 2]] w fun e w' => e = .returned (.agg #[.int .i64 16, .int .i64 3, .int .i64 0, .int .i64 0]) ∧ Below w.heap.size w w' := by
  have h1 := check_any _ _ _ _ 0 0 2 m w h hm
  rw [check_s1] at h1
  exact h1
theorem box4t (w : World) (t1 t2 t3 t4 : TypeId) (a b c d : Array Value) :
    let W := (((w.alloc (.cells a t1)).alloc (.cells b t2)).alloc (.cells c t3)).alloc (.cells d t4)
    Blk W w.heap.size t1 a ∧ Blk W (w.heap.size + 1) t2 b ∧ Blk W (w.heap.size + 1 + 1) t3 c ∧ Blk W (w.heap.size + 1 + 1 + 1) t4 d ∧ Below w.heap.size w W := by
  obtain ⟨h1, h2, h3, h4, h5⟩ := box3 w t1 t2 t3 a b c
  have h6 := Blk.new (((w.alloc (.cells a t1)).alloc (.cells b t2)).alloc (.cells c t3)) t4 d
  rw [World.size_alloc, World.size_alloc, World.size_alloc] at h6
  exact ⟨h1.alloc _, h2.alloc _, h3.alloc _, h6, h4.alloc h4.size _⟩
set_option maxHeartbeats 4000000 in
set_option maxRecDepth 100000 in
theorem alive_any (m : Int) (w : World) (hm : w.cell? ⟨0, 0, none⟩ = some (.int .i64 m)) :
    Calls Tryz.prog 8 #[] w fun e w' => e = .returned (.bool true) ∧ Below w.heap.size w w' := by
  have HM := Lib.hid hm; clear hm
  have hb4 := box4t w 45 41 50 26 eraC #[.string ⟨#[65]⟩, .slice (some ⟨w.heap.size, 0, none⟩) 1 1] #[.string ⟨#[65]⟩, .string ⟨#[66]⟩] #[.slice none 0 0, .slice (some ⟨w.heap.size + 1, 0, none⟩) 1 1, .slice (some ⟨w.heap.size + 1 + 1, 0, none⟩) 1 1]
  unfold eraC at hb4
  obtain ⟨W, hW⟩ : ∃ W, ((((w.alloc (.cells #[.int .i64 3600, .int .i64 0, .int .i64 0, .string ⟨#[]⟩, .string ⟨#[88]⟩, .bool false, .int .i64 0, .int .i64 0, .int .i64 0, .int .i64 0, .int .i64 0, .int .i64 0, .int .i64 0] 45)).alloc (.cells #[.string ⟨#[65]⟩, .slice (some ⟨w.heap.size, 0, none⟩) 1 1] 41)).alloc (.cells #[.string ⟨#[65]⟩, .string ⟨#[66]⟩] 50)).alloc (.cells #[.slice none 0 0, .slice (some ⟨w.heap.size + 1, 0, none⟩) 1 1, .slice (some ⟨w.heap.size + 1 + 1, 0, none⟩) 1 1] 26)) = W := ⟨_, rfl⟩
  go_enter Tryz.func8, Tryz.ntmps8
  go_upto_region 2 with fail
  simp only at hb4
  rw [hW] at hb4
  obtain ⟨g0, g1, g2, g3, hbw⟩ := hb4
  have hOk : ∀ z, Below W.heap.size W z → SrcOk (s0 (some ⟨w.heap.size, 0, none⟩) 1) none (some ⟨w.heap.size + 1, 0, none⟩) (some ⟨w.heap.size + 1 + 1, 0, none⟩) z := fun z hb => ok_s0 (g0.below hb g0.lt) (g1.below hb g1.lt) (g2.below hb g2.lt)
  have HOk := Lib.hid hOk; have HG3 := Lib.hid g3; have HBw := Lib.hid hbw
  have cs := fun i => g3.cell i
  clear hOk g0 g1 g2 g3 hbw hW
  go_upto_region 5 with (first
    | (go_at_call 11; refine (resolve_s0 (HOk.out _ (Below.refl _ _))).mono ?_; rintro e w1 ⟨rfl, hb⟩; have hx3 := HG3.out.below hb HG3.out.lt; have c1 := fun i => hx3.cell i; have HX3 := Lib.hid hx3; have HB1 := Lib.hid hb; clear hb hx3 cs)
    | (go_at_call 14; refine (names_s0c (HOk.out _ HB1.out)).mono ?_; rintro e w2 ⟨An, cn, rfl, hrd, hb⟩; have hx3 := HX3.out.below hb HX3.out.lt; have HY3 := Lib.hid hx3; have HB2 := Lib.hid (HB1.out.trans (hb.mono HB1.out.size)); have HRd := Lib.hid hrd; clear hb hx3 c1 hrd))
  have hb2 := box2 w2 50 26 #[.string ⟨#[65]⟩, .string ⟨#[66]⟩, .string ⟨#[66]⟩, .string ⟨#[65]⟩] #[.slice none 0 0, .slice none 0 0, .slice (some ⟨w2.heap.size, 0, none⟩) 2 2]
  obtain ⟨W5, hW5⟩ : ∃ W5, (w2.alloc (.cells #[.string ⟨#[65]⟩, .string ⟨#[66]⟩, .string ⟨#[66]⟩, .string ⟨#[65]⟩] 50)).alloc (.cells #[.slice none 0 0, .slice none 0 0, .slice (some ⟨w2.heap.size, 0, none⟩) 2 2] 26) = W5 := ⟨_, rfl⟩
  rw [hW5] at hb2 ⊢
  obtain ⟨k0, k1, kb, _⟩ := hb2
  have hb5 := HB2.out.trans (kb.mono HB2.out.size)
  obtain ⟨ad, hAn, hadb, hcs⟩ := HRd.out.2 (by decide)
  subst hAn
  have hc1 : w2.cell? (ad.add 1) = some (.string ⟨#[66]⟩) := hcs 1 _ rfl
  have hc1' : ∀ z, Below w2.heap.size w2 z → z.cell? (ad.add 1) = some (.string ⟨#[66]⟩) := fun z hb => (hb.cell (by rw [block_of_add]; exact hadb)).trans hc1
  have h3 := HY3.out.below kb HY3.out.lt
  have c3 := fun i => h3.cell i
  have HOk5 := Lib.hid (HOk.out _ hb5)
  have hm5 := cell_later (HBw.out.trans (hb5.mono HBw.out.size)) HM.out
  have Hm5 := Lib.hid hm5
  have HK := Lib.hid kb; have HK0 := Lib.hid k0; have HK1 := Lib.hid k1; have HC1 := Lib.hid hc1'
  have HBe := Lib.hid (HBw.out.trans (hb5.mono HBw.out.size))
  clear hb5 h3 hm5 kb k0 k1 hc1 hc1' hcs hW5
  go_wp2_with (first
    | (go_at_call 9; have tk := tok; refine (check_s1c m (cell_later HB6.out.1 HM.out) (ok_s1 HB6.out.2)).mono ?_; rintro e w7 ⟨rfl, hb⟩; have HB7 := Lib.hid (HB6.out.1.trans (hb.mono HB6.out.1.size)); clear hb)
    | (go_at_call 9; refine (check_s0c m Hm5.out HOk5.out).mono ?_; rintro e w6 ⟨rfl, hb⟩; have hx1 := HK1.out.below hb HK1.out.lt; have c6 := fun i => hx1.cell i; have HB6 := Lib.hid (And.intro (HBe.out.trans (hb.mono HBe.out.size)) (HK0.out.below hb HK0.out.lt)); have cN := HC1.out _ (HK.out.trans (hb.mono HK.out.size)); rw [add_pos ad (by decide)] at cN; have tok : True := trivial; clear hb hx1 c3))
  go_ret
  exact ⟨rfl, HB7.out⟩
end Go.Proofs.YtgfdmjldfahbpaaGreatDoor.Snd
