/-
  The table of the small source that the laws' function alive compiles (closed facts). Conditions: none.
  Layer 14: the contract of the laws' function alive. Conditions: the cell of bytealg.MaxLen holds a number.
-/
import Derived.Test.YtdicedpklpadgaaGreatDoorY26
import Derived.Test.YtdicedpklpadgaaGreatDoorY21
import Derived.Test.YtdicedpklpadgaaGreatDoorTKR11Pc
import Derived.Test.YtdicedpklpadgaaGreatDoorY35
import Derived.Test.YtdicedpklpadgaaGreatDoorY28
set_option linter.all false
section
namespace Go.Proofs.YtdicedpklpadgaaGreatDoor.Cmq
open Go.RowKit Mem Civ Mom Img Plc Rul Ahd Src Snd Att Rgt Abr

def nmA : ByteArray := ⟨#[65]⟩
def nmE : ByteArray := ⟨#[69]⟩
def fmC : ByteArray := ⟨#[67, 37, 115, 84]⟩
def rE1 : Rule := ⟨nmE, 1990, 1000000, 3, 1, 7, 0, 3600, 2, 3600, ⟨#[83]⟩⟩
def rE2 : Rule := ⟨nmE, 1990, 1000000, 10, 1, 7, 0, 3600, 2, 0, ⟨#[]⟩⟩
def eraS : Era := ⟨3600, 2, 0, nmE, fmC, false, 0, ⟨0, 0, 0, 0, 0, 0⟩⟩
def znS (A : Option Addr) (c : Nat) : ZoneM := ⟨nmA, [eraS], A, c⟩
def smS (A : Option Addr) (c : Nat) : Src := ⟨[rE1, rE2], [znS A c], []⟩
def tabS : Table := tableZ (smS none 0) (znS none 0)
set_option maxRecDepth 1000000 in
theorem check_sm (A : Option Addr) (c : Nat) : checkB (smS A c) = noFlaw := by kernel_rfl
theorem made_sm (A : Option Addr) (c : Nat) : madeZ (smS A c) (znS A c) = madeZ (smS none 0) (znS none 0) := rfl
theorem table_sm (A : Option Addr) (c : Nat) : tableZ (smS A c) (znS A c) = tabS := rfl
theorem over_sm : (madeZ (smS none 0) (znS none 0)).1.2 = false := by kernel_rfl
theorem compile_sm (A : Option Addr) (c : Nat) : compileP (smS A c) 0 = (tabS, 0) := by
  have e : (smS A c).zones[(0 : Int).toNat]? = some (znS A c) := rfl
  unfold compileP
  rw [if_pos ⟨check_sm A c, Int.le_refl _⟩, e]
  simp only
  rw [if_neg (by rw [made_sm, over_sm]; decide), table_sm]
theorem len_sm : tabS.shifts.length = 100 := by kernel_rfl
theorem tail_sm : tabS.tail = [rE1, rE2] := by kernel_rfl
theorem till_sm : tabS.till = 2208988800 := by kernel_rfl
def phS : Phase := ⟨7200, 3600, ⟨#[67, 83, 84]⟩⟩
set_option maxRecDepth 1000000 in
theorem right_sm : rightB tabS (tailB tabS) = true := by kernel_rfl
theorem at1_sm : atP tabS 1625097600 = (phS, true) := by
  unfold atP
  rw [if_pos right_sm]
  kernel_rfl
theorem at2_sm : atP tabS 32519318400 = (phS, true) := by
  unfold atP
  rw [if_pos right_sm]
  kernel_rfl
end Go.Proofs.YtdicedpklpadgaaGreatDoor.Cmq
end
section
namespace Go.Proofs.YtdicedpklpadgaaGreatDoor.Cmq
open Go.RowKit Mem Civ Mom Img Plc Rul Ahd Trn Src Snd Att Rgt Abr

theorem reads_blk {w : World} {g : Nat} {t : TypeId} {cs : Array Value} {n size : Nat} (h : Blk w g t cs) (hs : cs.size = n * size) (hn : n ≤ maxLen) : Reads w w.heap.size size (some ⟨g, 0, none⟩) n cs.toList :=
  Reads.of_own (own_of_blk h (Nat.le_refl g) hs hn)
def ruC : Array Value := #[.string ⟨#[69]⟩, .int .i64 1990, .int .i64 1000000, .int .i64 3, .int .i64 1, .int .i64 7, .int .i64 0, .int .i64 3600, .int .i64 2, .int .i64 3600, .string ⟨#[83]⟩, .string ⟨#[69]⟩, .int .i64 1990, .int .i64 1000000, .int .i64 10, .int .i64 1, .int .i64 7, .int .i64 0, .int .i64 3600, .int .i64 2, .int .i64 0, .string ⟨#[]⟩]
def erC : Array Value := #[.int .i64 3600, .int .i64 2, .int .i64 0, .string ⟨#[69]⟩, .string ⟨#[67, 37, 115, 84]⟩, .bool false, .int .i64 0, .int .i64 0, .int .i64 0, .int .i64 0, .int .i64 0, .int .i64 0, .int .i64 0]
theorem ok_sm {w : World} {ge gr gz : Nat} (hr : Blk w gr 59 ruC) (he : Blk w ge 57 erC) (hz : Blk w gz 49 #[.string nmA, .slice (some ⟨ge, 0, none⟩) 1 1]) :
    SrcOk (smS (some ⟨ge, 0, none⟩) 1) (some ⟨gr, 0, none⟩) (some ⟨gz, 0, none⟩) none w where
  rr := reads_blk hr rfl (show 2 ≤ maxLen by decide)
  rz := reads_blk hz rfl (show 1 ≤ maxLen by decide)
  rl := Reads.none_
  re := fun z hz => by
    rcases List.mem_singleton.1 hz with rfl
    exact reads_blk he rfl (show 1 ≤ maxLen by decide)
  nr := by simp [smS]
  nz := by simp [smS]
  nl := by simp [smS]
  ne := fun z hz => by rcases List.mem_singleton.1 hz with rfl; simp [znS]
  tr := fun r hr => by
    simp only [smS, List.mem_cons, List.not_mem_nil, or_false] at hr
    rcases hr with rfl | rfl <;> exact ⟨by decide, by decide⟩
  tz := fun z hz => by rcases List.mem_singleton.1 hz with rfl; exact (show nmA.size ≤ 2097152 by decide)
  te := fun z hz e he => by
    rcases List.mem_singleton.1 hz with rfl
    rcases List.mem_singleton.1 he with rfl
    exact ⟨by decide, by decide⟩
  tl := fun l hl => by cases hl
theorem box4s (w : World) (t1 t2 t3 t4 : TypeId) (a b c d : Array Value) :
    let W := (((w.alloc (.cells a t1)).alloc (.cells b t2)).alloc (.cells c t3)).alloc (.cells d t4)
    Blk W w.heap.size t1 a ∧ Blk W (w.heap.size + 1) t2 b ∧ Blk W (w.heap.size + 1 + 1) t3 c ∧ Blk W (w.heap.size + 1 + 1 + 1) t4 d ∧ Below w.heap.size w W := by
  obtain ⟨h1, h2, h3, h4, h5⟩ := box3 w t1 t2 t3 a b c
  have h6 := Blk.new (((w.alloc (.cells a t1)).alloc (.cells b t2)).alloc (.cells c t3)) t4 d
  rw [World.size_alloc, World.size_alloc, World.size_alloc] at h6
  exact ⟨h1.alloc _, h2.alloc _, h3.alloc _, h6, h4.alloc h4.size _⟩
set_option maxHeartbeats 4000000 in
set_option maxRecDepth 100000 in
theorem small_any (w : World) : Calls Tryz.prog 23 #[] w fun e w' => ∃ ge gr gz, e = .returned (.agg #[.slice (some ⟨gr, 0, none⟩) 2 2, .slice (some ⟨gz, 0, none⟩) 1 1, .slice none 0 0]) ∧ SrcOk (smS (some ⟨ge, 0, none⟩) 1) (some ⟨gr, 0, none⟩) (some ⟨gz, 0, none⟩) none w' ∧ Below w.heap.size w w' := by
  obtain ⟨h0, h1, h2, h3, hb⟩ := box4s w 26 59 57 49 #[.slice none 0 0, .slice none 0 0, .slice none 0 0] ruC erC #[.string ⟨#[65]⟩, .slice (some ⟨w.heap.size + 1 + 1, 0, none⟩) 1 1]
  unfold ruC erC at *
  obtain ⟨W, hW⟩ : ∃ W, (((w.alloc (.cells #[.slice none 0 0, .slice none 0 0, .slice none 0 0] 26)).alloc (.cells #[.string ⟨#[69]⟩, .int .i64 1990, .int .i64 1000000, .int .i64 3, .int .i64 1, .int .i64 7, .int .i64 0, .int .i64 3600, .int .i64 2, .int .i64 3600, .string ⟨#[83]⟩, .string ⟨#[69]⟩, .int .i64 1990, .int .i64 1000000, .int .i64 10, .int .i64 1, .int .i64 7, .int .i64 0, .int .i64 3600, .int .i64 2, .int .i64 0, .string ⟨#[]⟩] 59)).alloc (.cells #[.int .i64 3600, .int .i64 2, .int .i64 0, .string ⟨#[69]⟩, .string ⟨#[67, 37, 115, 84]⟩, .bool false, .int .i64 0, .int .i64 0, .int .i64 0, .int .i64 0, .int .i64 0, .int .i64 0, .int .i64 0] 57)).alloc (.cells #[.string ⟨#[65]⟩, .slice (some ⟨w.heap.size + 1 + 1, 0, none⟩) 1 1] 49) = W := ⟨_, rfl⟩
  rw [hW] at h0 h1 h2 h3 hb
  have f0 := fun i => h0.frozen i
  have c0 := fun i => h0.cell i
  have hr := ((h0.set_ 0 (.slice (some ⟨w.heap.size + 1, 0, none⟩) 2 2)).set_ 1 (.slice (some ⟨w.heap.size + 1 + 1 + 1, 0, none⟩) 1 1)).set_ 2 (.slice none 0 0)
  have g0 := fun i => hr.cell i
  have hok := ok_sm (((h1.far (p := ⟨w.heap.size, 0, none⟩) (by dsimp only; omega) (.slice (some ⟨w.heap.size + 1, 0, none⟩) 2 2)).far (p := ⟨w.heap.size, 1, none⟩) (by dsimp only; omega) (.slice (some ⟨w.heap.size + 1 + 1 + 1, 0, none⟩) 1 1)).far (p := ⟨w.heap.size, 2, none⟩) (by dsimp only; omega) (.slice none 0 0)) (((h2.far (p := ⟨w.heap.size, 0, none⟩) (by dsimp only; omega) (.slice (some ⟨w.heap.size + 1, 0, none⟩) 2 2)).far (p := ⟨w.heap.size, 1, none⟩) (by dsimp only; omega) (.slice (some ⟨w.heap.size + 1 + 1 + 1, 0, none⟩) 1 1)).far (p := ⟨w.heap.size, 2, none⟩) (by dsimp only; omega) (.slice none 0 0)) (((h3.far (p := ⟨w.heap.size, 0, none⟩) (by dsimp only; omega) (.slice (some ⟨w.heap.size + 1, 0, none⟩) 2 2)).far (p := ⟨w.heap.size, 1, none⟩) (by dsimp only; omega) (.slice (some ⟨w.heap.size + 1 + 1 + 1, 0, none⟩) 1 1)).far (p := ⟨w.heap.size, 2, none⟩) (by dsimp only; omega) (.slice none 0 0))
  have hbb := ((hb.setCell (p := ⟨w.heap.size, 0, none⟩) (Nat.le_refl _) (.slice (some ⟨w.heap.size + 1, 0, none⟩) 2 2)).setCell (p := ⟨w.heap.size, 1, none⟩) (Nat.le_refl _) (.slice (some ⟨w.heap.size + 1 + 1 + 1, 0, none⟩) 1 1)).setCell (p := ⟨w.heap.size, 2, none⟩) (Nat.le_refl _) (.slice none 0 0)
  have HOk := Lib.hid hok; have HB := Lib.hid hbb; have HG := Lib.hid g0
  clear h1 h2 h3 hok hb h0 hbb hr g0
  go_enter Tryz.func23, Tryz.ntmps23
  go_wp2_with fail
  try rw [hW]
  have g0 := HG.out
  refine bodyPost_ret (v := .agg #[.slice (some ⟨w.heap.size + 1, 0, none⟩) 2 2, .slice (some ⟨w.heap.size + 1 + 1 + 1, 0, none⟩) 1 1, .slice none 0 0]) (by simp [results, Tryz.results23, go_sem, g0]) rfl ?_
  exact ⟨_, _, _, rfl, HOk.out, HB.out⟩
def eraWB (s : Src) (x : Era) : Bool := decide ((x.kind = 0 ∨ x.kind = 1 ∨ x.kind = 2) ∧ (-86400 < x.off ∧ x.off < 86400) ∧ (-43200 ≤ x.save ∧ x.save ≤ 43200) ∧ x.format.size ≤ 2097152 ∧ rulesB (setL s.rules x.rules) = true ∧ crowdB (setL s.rules x.rules) = false ∧ -9000000000000 ≤ endP (svF s) x ∧ endP (svF s) x ≤ 9000000000000)
theorem eraW_of {s : Src} {x : Era} (h : eraWB s x = true) : EraW s x := by
  obtain ⟨h1, h2, h3, h4, h5, h6, h7, h8⟩ := of_decide_eq_true h
  exact ⟨h1, h2, h3, h4, h5, h6, h7, h8⟩
set_option maxRecDepth 1000000 in
theorem era_sm : eraWB (smS none 0) eraS = true := by kernel_rfl
theorem last_sm : lastZ (smS none 0).rules [eraS] = 2037 := by kernel_rfl
theorem src_sm : srcB (smS none 0) = true := by kernel_rfl
set_option maxRecDepth 1000000 in
theorem turns_sm : ((turnsE (smS none 0).rules 2037 eraS).all fun u => decide ((-43200 ≤ u.save ∧ u.save ≤ 43200) ∧ u.letter.size ≤ 2097152)) = true := by kernel_rfl
def pwB (p : Phase) : Bool := decide ((-9223372036854775808 ≤ p.off ∧ p.off ≤ 9223372036854775807) ∧ (-9223372036854775808 ≤ p.save ∧ p.save ≤ 9223372036854775807) ∧ p.abbr.size ≤ 8388608)
theorem pw_of {p : Phase} (h : pwB p = true) : PW p := by
  unfold PW In64
  exact of_decide_eq_true h
theorem first_sm : pwB tabS.first = true := by kernel_rfl
set_option maxRecDepth 1000000 in
theorem shifts_sm : (tabS.shifts.all fun s => pwB s.ph) = true := by kernel_rfl
theorem texts_sm : decide (tabS.name.size ≤ 2097152 ∧ tabS.format.size ≤ 2097152) = true := by kernel_rfl
/-- What Compile answers at the small source. -/
theorem small_read (A A2 Ae : Option Addr) (m : Int) (w : World) (h : SrcOk (smS Ae 1) A A2 none w) (hm : w.cell? ⟨0, 0, none⟩ = some (.int .i64 m)) :
    Calls Tryz.prog 11 #[.agg #[.slice A (smS Ae 1).rules.length 2, .slice A2 (smS Ae 1).zones.length 1, .slice none (smS Ae 1).links.length 0], .int .i64 0] w fun e w' =>
      ∃ A c A2 c2, e = .returned (.tuple #[.agg (tabCells tabS A c A2 c2), .int .i64 0]) ∧ TabOk tabS A A2 w' ∧ Below w.heap.size w w' := by
  have hy : lastZ (smS Ae 1).rules (znS Ae 1).eras = 2037 := last_sm
  have hz : (smS Ae 1).zones[0]'(by simp [smS]) = znS Ae 1 := rfl
  have hc := compile_yes (smS Ae 1) A A2 none 2 1 0 m 0 w h hm (check_sm Ae 1) src_sm (by simp [smS]) (by rw [hz]; simp [znS]) (fun x hx => by
    rw [hz] at hx
    rcases List.mem_singleton.1 hx with rfl
    exact eraW_of era_sm) (by rw [hz, hy]; decide) (by rw [hz, hy]; decide) (fun x hx u hu => by
    rw [hz] at hx hu
    rcases List.mem_singleton.1 hx with rfl
    rw [hy] at hu
    exact of_decide_eq_true (List.all_eq_true.1 turns_sm u hu))
  have hcp : compileP (smS Ae 1) ((0 : Nat) : Int) = (tabS, 0) := compile_sm Ae 1
  rw [hcp] at hc
  refine hc.mono ?_
  rintro e w' ⟨v, tv, rfl, ho, ht, hb⟩
  obtain ⟨A', c', rfl⟩ := own_sl ho
  obtain ⟨B', d', rfl⟩ := own_sl ht
  have htx := of_decide_eq_true texts_sm
  refine ⟨A', c', B', d', rfl, ⟨Reads.of_own ho, Reads.of_own ht, by rw [len_sm]; omega, by rw [tail_sm]; decide, htx.1, htx.2, pw_of first_sm, fun s hs => pw_of (List.all_eq_true.1 shifts_sm s hs), fun r hr => ?_⟩, hb⟩
  rw [tail_sm] at hr
  simp only [List.mem_cons, List.not_mem_nil, or_false] at hr
  rcases hr with rfl | rfl <;> exact ⟨by decide, by decide⟩
set_option maxHeartbeats 4000000 in
set_option maxRecDepth 100000 in
theorem alive_any (m : Int) (w : World) (hm : w.cell? ⟨0, 0, none⟩ = some (.int .i64 m)) :
    Calls Tryz.prog 10 #[] w fun e w' => e = .returned (.bool true) ∧ Below w.heap.size w w' := by
  obtain ⟨T, hT⟩ : ∃ T, tabS = T := ⟨_, rfl⟩
  have h1 := len_sm; have h2 := tail_sm; have h3 := till_sm; have h4 := right_sm; have h5 := at1_sm; have h6 := at2_sm
  rw [hT] at h1 h2 h3 h4 h5 h6
  have h2' : T.tail.length = 2 := by rw [h2]; rfl
  have hC := fun (A A2 : Option Addr) (ge : Nat) z (hs : SrcOk (smS (some ⟨ge, 0, none⟩) 1) A A2 none z) (hz : z.cell? ⟨0, 0, none⟩ = some (.int .i64 m)) => small_read A A2 (some ⟨ge, 0, none⟩) m z hs hz
  simp only [hT] at hC
  have hA1 := fun A A2 c c2 z (hx : TabOk T A A2 z) (hz : z.cell? ⟨0, 0, none⟩ = some (.int .i64 m)) => at_any T A A2 c c2 1625097600 m z hx hz (by omega) (by omega)
  have hA2 := fun A A2 c c2 z (hx : TabOk T A A2 z) (hz : z.cell? ⟨0, 0, none⟩ = some (.int .i64 m)) => at_any T A A2 c c2 32519318400 m z hx hz (by omega) (by omega)
  have hR := fun A A2 c c2 z (hx : TabOk T A A2 z) (hz : z.cell? ⟨0, 0, none⟩ = some (.int .i64 m)) => right_t T A A2 c c2 m z hx hz
  have hS := fun A A2 c c2 z (hx : TabOk T A A2 z) => Sam.same_any T T A A2 A A2 c c2 c c2 z hx hx
  simp only [h5, h6, phS] at hA1 hA2
  simp only [h4] at hR
  simp only [decide_true] at hS
  have heq := fun z => Sam.eq_phase phS phS z
  rw [decide_eq_true rfl] at heq
  simp only [phS, Phase.cells] at heq
  simp only [tabCells, h1, h2'] at hA1 hA2 hR hS
  have HM := Lib.hid hm; have HC := Lib.hid hC; have HA1 := Lib.hid hA1; have HA2 := Lib.hid hA2; have HR := Lib.hid hR; have HS := Lib.hid hS
  clear hm hC hA1 hA2 hR hS h4 h5 h6 h2 hT
  obtain ⟨n, p, ss, tl, tt, off, fm⟩ := T
  simp only at h1 h2' h3 HA1 HA2 HR HS HC
  subst h3
  have H1 := Lib.hid h1; have H2 := Lib.hid h2'
  clear h1 h2'
  go_enter Tryz.func10, Tryz.ntmps10
  go_wp2_with (first
    | (go_at_call 23; refine (small_any _).mono ?_; rintro e w1 ⟨ge, gr, gz, rfl, hok, hb⟩; have HOk := Lib.hid hok; have HB1 := Lib.hid hb; clear hok hb)
    | (go_at_call 11; refine (HC.out _ _ ge _ HOk.out (cell_later HB1.out HM.out)).mono ?_; rintro e w2 ⟨A, c, A2, c2, rfl, hok, hb⟩; simp only [tabCells, H1.out, H2.out]; have hb2 := HB1.out.trans (hb.mono HB1.out.size); have hbX : Below w2.heap.size w2 (w2.alloc (.cells #[.string n, .int .i64 p.off, .int .i64 p.save, .string p.abbr, .slice A 100 c, .int .i64 2208988800, .slice A2 2 c2, .int .i64 off, .string fm] 33)) := (Below.refl _ _).alloc (Nat.le_refl _) _; have hX := Blk.new w2 33 #[.string n, .int .i64 p.off, .int .i64 p.save, .string p.abbr, .slice A 100 c, .int .i64 2208988800, .slice A2 2 c2, .int .i64 off, .string fm]; have cX := fun i => hX.cell i; have HX2 := Lib.hid hX; have HOk2 := Lib.hid (hok.below hbX); have HB2 := Lib.hid (hb2.trans (hbX.mono hb2.size)); clear hok hb hb2 hbX hX)
    | (go_at_call 15; refine (HA1.out A A2 c c2 _ HOk2.out (cell_later HB2.out HM.out)).mono ?_; rintro e w3 ⟨rfl, hb⟩; have hb3 := HB2.out.trans (hb.mono HB2.out.size); have hbP : Below w3.heap.size w3 (w3.alloc (.cells #[.int .i64 7200, .int .i64 3600, .string ⟨#[67, 83, 84]⟩] 30)) := (Below.refl _ _).alloc (Nat.le_refl _) _; have HP3 := Lib.hid (Blk.new w3 30 #[.int .i64 7200, .int .i64 3600, .string ⟨#[67, 83, 84]⟩]); have hX := (HX2.out.below hb HX2.out.lt).alloc (.cells #[.int .i64 7200, .int .i64 3600, .string ⟨#[67, 83, 84]⟩] 30); have cX3 := fun i => hX.cell i; have HX3 := Lib.hid hX; have HOk3 := Lib.hid ((HOk2.out.below hb).below hbP); have HB3 := Lib.hid (hb3.trans (hbP.mono hb3.size)); clear hb hb3 hbP hX cX HX2 HOk2 HB2)
    | (go_at_call 15; refine (HA2.out A A2 c c2 _ HOk3.out (cell_later HB3.out HM.out)).mono ?_; rintro e w4 ⟨rfl, hb⟩; have hb4 := HB3.out.trans (hb.mono HB3.out.size); have hbP : Below w4.heap.size w4 (w4.alloc (.cells #[.int .i64 7200, .int .i64 3600, .string ⟨#[67, 83, 84]⟩] 30)) := (Below.refl _ _).alloc (Nat.le_refl _) _; have hQ := Blk.new w4 30 #[.int .i64 7200, .int .i64 3600, .string ⟨#[67, 83, 84]⟩]; have hX := (HX3.out.below hb HX3.out.lt).alloc (.cells #[.int .i64 7200, .int .i64 3600, .string ⟨#[67, 83, 84]⟩] 30); have hP := (HP3.out.below hb HP3.out.lt).alloc (.cells #[.int .i64 7200, .int .i64 3600, .string ⟨#[67, 83, 84]⟩] 30); have cX4 := fun i => hX.cell i; have cP4 := fun i => hP.cell i; have cQ4 := fun i => hQ.cell i; have HX4 := Lib.hid hX; have HOk4 := Lib.hid ((HOk3.out.below hb).below hbP); have HB4 := Lib.hid (hb4.trans (hbP.mono hb4.size)); clear hb hb4 hbP hX hQ hP cX3 HX3 HOk3 HB3 HP3)
    | (go_at_call 17; refine (HR.out A A2 c c2 _ HOk4.out (cell_later HB4.out HM.out)).mono ?_; rintro e w5 ⟨rfl, hb⟩; have hX := HX4.out.below hb HX4.out.lt; have cX5 := fun i => hX.cell i; have HOk5 := Lib.hid (HOk4.out.below hb); have HB5 := Lib.hid (HB4.out.trans (hb.mono HB4.out.size)); clear hb hX cX4)
    | (go_at_call 19; refine (HS.out A A2 c c2 _ HOk5.out).mono ?_; rintro e w6 ⟨rfl, hb⟩; have HB6 := Lib.hid (HB5.out.trans (hb.mono HB5.out.size)); clear hb))
  go_ret
  exact ⟨rfl, HB6.out⟩
end Go.Proofs.YtdicedpklpadgaaGreatDoor.Cmq
end
