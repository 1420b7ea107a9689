/-
  Package rules: the contract of Ahead. Conditions: what the set's slice holds is read; the time is an int64.
-/
import Derived.Test.YtgfdmjldfahbpaaGreatDoorAhL
namespace Go.Proofs.YtgfdmjldfahbpaaGreatDoor.Ahd
open Go.RowKit Mem Civ Mom Img Rul

theorem year_bd (t : Int) : -1000000 ≤ yearI t ∧ yearI t ≤ 1000000 := by
  have key : ∀ n, -100000001 ≤ n → n ≤ 100000000 → -1000000 ≤ yearD n ∧ yearD n ≤ 1000000 := by
    intro n h1 h2
    have e6 : yOf n = (dayOf n - dayOf n / 1460 + dayOf n / 36524 - dayOf n / 146096) / 365 := rfl
    have e7 : dayOf n = (n + 719468) % 146097 := rfl
    unfold yearD
    split <;> omega
  unfold yearI
  split
  · omega
  · split
    · exact key _ (by omega) (by omega)
    · exact key _ (by omega) (by omega)
/-- The turn ahead of a local time. -/
def aheadO (rs : List Rule) (at_ : Int) : Option Turn := if rulesB rs = true then latestL (fun t => decide (t.at_ < at_)) (yearI at_) rs else none
theorem ahead1_any (t : Turn) (at_ : Int) (b : Nat) (w : World) (hc : w.cell? ⟨b, 0, none⟩ = some (.int .i64 at_)) :
    Calls Tryz.prog 155 #[.agg #[.int .i64 t.at_, .int .i64 t.ref, .int .i64 t.save, .string t.letter], .pointer (some ⟨b, 0, none⟩)] w fun e w' => e = .returned (.bool (decide (t.at_ < at_))) ∧ Below w.heap.size w w' := by
  have hone := One.new w 86 #[.int .i64 t.at_, .int .i64 t.ref, .int .i64 t.save, .string t.letter]
  obtain ⟨W, hW⟩ : ∃ W, w.alloc (.cells #[.int .i64 t.at_, .int .i64 t.ref, .int .i64 t.save, .string t.letter] 86) = W := ⟨_, rfl⟩
  rw [hW] at hone
  have c2 : W.cell? ⟨b, 0, none⟩ = some (.int .i64 at_) := cell_later hone.2 hc
  have HO := Lib.hid hone
  have c0 := fun i => hone.1.cell i
  clear hone hc
  go_enter Tryz.func155, Tryz.ntmps155
  go_wp2
  go_ret
  exact ⟨rfl, HO.out.2⟩
theorem ahead_results {w : World} {R0 : Nat} {b : Bool} {a0 a1 a2 a3 : Value} (h : Blk w R0 86 #[a0, a1, a2, a3]) (tmps : Array Value) (ht : tmps[4]? = some (.pointer (some ⟨R0, 0, none⟩))) (h7 : tmps[5]? = some (.bool b)) : (results Tryz.f138 tmps).run Tryz.prog w = .ok (.tuple #[.agg #[a0, a1, a2, a3], .bool b]) w := by
  have hc := fun i => h.cell i
  simp [results, Tryz.results138, go_sem, hc, ht, h7]
set_option maxHeartbeats 2000000 in
set_option maxRecDepth 100000 in
theorem ahead_any (rs : List Rule) (A : Option Addr) (c : Nat) (at_ : Int) (w : World) (h : Reads w w.heap.size 11 A rs.length (rs.flatMap Rule.cells)) (hn : rs.length ≤ 1000000) (h1 : -9223372036854775808 ≤ at_) (h2 : at_ ≤ 9223372036854775807) :
    Calls Tryz.prog 138 #[.slice A rs.length c, .int .i64 at_] w fun e w' => e = .returned (.tuple #[.agg ((aheadO rs at_).getD noTurn).cells.toArray, .bool (aheadO rs at_).isSome]) ∧ Below w.heap.size w w' := by
  have hR := fun z (hb : Below w.heap.size w z) => rulesRight_any rs A c z ((h.below hb).more hb.size) hn
  have hY := fun z => year_any at_ z h1 h2
  have hL := fun (b : Nat) z (hr : rulesB rs = true) (hb : Below w.heap.size w z) (hc : z.cell? ⟨b, 0, none⟩ = some (.int .i64 at_)) =>
    latest_any rs A c 155 #[.pointer (some ⟨b, 0, none⟩)] (fun t => decide (t.at_ < at_)) (yearI at_) z ((h.below hb).more hb.size) hn hr (year_bd at_).1 (year_bd at_).2
      (fun t z2 hb2 => ahead1_any t at_ b z2 (cell_later hb2 hc)) (enters_of Tryz.func155 (by kernel_rfl) rfl)
  have HR := Lib.hid hR; have HY := Lib.hid hY
  obtain ⟨Q, hQ⟩ : ∃ Q, aheadO rs at_ = Q := ⟨_, rfl⟩
  rw [hQ]
  unfold aheadO at hQ
  have hb2 := box2 w 2 86 #[.int .i64 at_] #[.int .i64 0, .int .i64 0, .int .i64 0, .string ⟨#[]⟩]
  obtain ⟨W, hW⟩ : ∃ W, (w.alloc (.cells #[.int .i64 at_] 2)).alloc (.cells #[.int .i64 0, .int .i64 0, .int .i64 0, .string ⟨#[]⟩] 86) = W := ⟨_, rfl⟩
  rw [hW] at hb2
  obtain ⟨b0, b1, hbw, hsz⟩ := hb2
  have HB0 := Lib.hid b0; have HB1 := Lib.hid b1; have HBw := Lib.hid hbw
  have c0 := b0.cell 0
  simp only [List.getElem?_toArray, List.getElem?_cons_zero] at c0
  generalize yearI at_ = y at *
  generalize hq : rulesB rs = q at *
  cases q
  · rw [if_neg (by decide)] at hQ
    subst hQ
    clear hL h hR hY b0 b1 hbw hq
    go_enter Tryz.func138, Tryz.ntmps138
    go_wp2_with (go_at_call 64; refine (HR.out _ HBw.out).mono ?_; rintro e w1 ⟨rfl, hb⟩; have hx1 := HB1.out.below hb HB1.out.lt; have f1 := fun i => hx1.frozen i; have c1 := fun i => hx1.cell i; have HX1 := Lib.hid hx1; have HBx := Lib.hid (HBw.out.trans (hb.mono HBw.out.size)); clear hb hx1)
    refine bodyPost_ret (ahead_results ((((HX1.out.set_ 0 (.int .i64 0)).set_ 1 (.int .i64 0)).set_ 2 (.int .i64 0)).set_ 3 (.string ⟨#[]⟩)) _ rfl rfl) rfl ?_
    exact ⟨rfl, ((((HBx.out.setCell (by simp) _).setCell (by simp) _).setCell (by simp) _).setCell (by simp) _)⟩
  · rw [if_pos rfl] at hQ
    rw [hQ] at hL
    have HL := Lib.hid (fun b z => hL b z rfl)
    clear hL h hR hY b0 b1 hbw hq hQ
    obtain ⟨B, hB⟩ : ∃ B : Turn, B = Q.getD noTurn := ⟨_, rfl⟩
    rw [← hB] at HL ⊢
    clear hB
    obtain ⟨t0, t1, t2, t3⟩ := B
    generalize Q.isSome = qs at *
    simp only [Turn.cells] at HL ⊢
    go_enter Tryz.func138, Tryz.ntmps138
    go_wp2_with (first
      | (go_at_call 64; refine (HR.out _ HBw.out).mono ?_; rintro e w1 ⟨rfl, hb⟩; have hx0 := HB0.out.below hb HB0.out.lt; have hx1 := HB1.out.below hb HB1.out.lt; have c1 := hx0.cell 0; simp only [List.getElem?_toArray, List.getElem?_cons_zero] at c1; have HX0 := Lib.hid hx0; have HX1 := Lib.hid hx1; have HBx := Lib.hid (HBw.out.trans (hb.mono HBw.out.size)); clear hb hx0 hx1)
      | (go_at_call 154; refine (HY.out _).mono ?_; rintro e w2 ⟨rfl, hb⟩; have hx0 := HX0.out.below hb HX0.out.lt; have hx1 := HX1.out.below hb HX1.out.lt; have HY0 := Lib.hid hx0; have HY1 := Lib.hid hx1; have HBy := Lib.hid (HBx.out.trans (hb.mono HBx.out.size)); clear hb hx0 hx1)
      | (go_at_call 153; refine (HL.out _ _ HBy.out (HY0.out.cell 0)).mono ?_; rintro e w3 ⟨rfl, hb⟩; have hx1 := HY1.out.below hb HY1.out.lt; have f3 := fun i => hx1.frozen i; have c3 := fun i => hx1.cell i; have HZ1 := Lib.hid hx1; have HBz := Lib.hid (HBy.out.trans (hb.mono HBy.out.size)); clear hb hx1))
    refine bodyPost_ret (ahead_results ((((HZ1.out.set_ 0 (.int .i64 t0)).set_ 1 (.int .i64 t1)).set_ 2 (.int .i64 t2)).set_ 3 (.string t3)) _ rfl rfl) rfl ?_
    exact ⟨rfl, ((((HBz.out.setCell (by simp) _).setCell (by simp) _).setCell (by simp) _).setCell (by simp) _)⟩
end Go.Proofs.YtgfdmjldfahbpaaGreatDoor.Ahd
