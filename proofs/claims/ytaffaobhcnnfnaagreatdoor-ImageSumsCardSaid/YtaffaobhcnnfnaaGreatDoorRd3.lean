/-
  Images read: the contract of (*reader).rule, and a reader with objects of the walk's own beside it. Conditions: the lengths are bounded.
-/
import Derived.Test.YtaffaobhcnnfnaaGreatDoorRd2
import Derived.Test.YtaffaobhcnnfnaaGreatDoorTab
namespace Go.Proofs.YtaffaobhcnnfnaaGreatDoor.Rd
open Go.RowKit Mem Img

/-- A reader, and objects of the walk's own beside it. -/
def RS (w0 : World) (g : Nat) (os : List (Nat × TypeId × Array Value)) (l : List UInt8) (w : World) : Prop :=
  Rd w g l ∧ w0.grownBy w (some g) ∧ (∀ x ∈ os, Blk w x.1 x.2.1 x.2.2 ∧ x.1 ≠ g ∧ w0.heap.size ≤ x.1) ∧ (os.map (·.1)).Nodup
section
variable {w0 w w' : World} {g : Nat} {os : List (Nat × TypeId × Array Value)} {l l' : List UInt8}
theorem RS.start (h : Rd w g l) : RS w g [] l w := ⟨h, World.grownBy.refl w _, by simp, by simp⟩
theorem RS.rd (h : RS w0 g os l w) : Rd w g l := h.1
theorem RS.out (h : RS w0 g os l w) : w0.grownBy w (some g) := h.2.1
theorem RS.step (h : RS w0 g os l w) (hr : Rd w' g l') (hg : w.grownBy w' (some g)) : RS w0 g os l' w' :=
  ⟨hr, gr3 h.2.1 hg, fun x hx => ⟨(h.2.2.1 x hx).1.grown hg (by simpa using (h.2.2.1 x hx).2.1), (h.2.2.1 x hx).2⟩, h.2.2.2⟩
theorem grown_alloc (w : World) (o : Obj) : w.grownBy (w.alloc o) none := ⟨rfl, rfl, rfl, by simp, fun k hk _ => Below.heap_alloc w o k hk⟩
theorem RS.new {t : TypeId} {cs : Array Value} (h : RS w0 g os l w) : RS w0 g ((w.heap.size, t, cs) :: os) l (w.alloc (.cells cs t)) := by
  have hn : ∀ x ∈ os, x.1 < w.heap.size := fun x hx => (h.2.2.1 x hx).1.lt
  have hg : g < w.heap.size := Blk.lt h.1
  refine ⟨Blk.alloc h.1 _, gr2 h.2.1 (grown_alloc w _), ?_, ?_⟩
  · intro x hx
    rcases List.mem_cons.1 hx with rfl | hx
    · exact ⟨Blk.new w t cs, by simp; omega, h.2.1.size⟩
    · exact ⟨(h.2.2.1 x hx).1.alloc _, (h.2.2.1 x hx).2⟩
  · simp only [List.map_cons, List.nodup_cons]
    refine ⟨fun hm => ?_, h.2.2.2⟩
    obtain ⟨x, hx, e⟩ := List.mem_map.1 hm
    have := hn x hx
    omega
theorem RS.blk (h : RS w0 g os l w) {b : Nat} {t : TypeId} {cs : Array Value} (hx : (b, t, cs) ∈ os) : Blk w b t cs := (h.2.2.1 _ hx).1
theorem RS.old (h : RS w0 g os l w) {b : Nat} {t : TypeId} {cs : Array Value} (hx : (b, t, cs) ∈ os) : b ≠ g ∧ w0.heap.size ≤ b := (h.2.2.1 _ hx).2
theorem grown_set {r : Option Nat} (h : w0.grownBy w r) {p : Addr} (v : Value) (hp : w0.heap.size ≤ p.block) : w0.grownBy (w.setCell p v) r :=
  ⟨h.os, h.tape, h.output, by simpa [World.setCell] using h.size, fun k hk hne => (Below.heap_setCell _ _ _ _ (by omega)).trans (h.block k hk hne)⟩
theorem RS.front {x y z : Nat × TypeId × Array Value} (h : RS w0 g (x :: y :: z :: os) l w) : RS w0 g (z :: x :: y :: os) l w := by
  obtain ⟨h1, h2, h3, h4⟩ := h
  refine ⟨h1, h2, fun u hu => h3 u ?_, ?_⟩
  · simp only [List.mem_cons] at hu ⊢
    rcases hu with h | h | h | h
    · exact .inr (.inr (.inl h))
    · exact .inl h
    · exact .inr (.inl h)
    · exact .inr (.inr (.inr h))
  · simp only [List.map_cons, List.nodup_cons, List.mem_cons] at h4 ⊢
    obtain ⟨h5, h6, h7, h8⟩ := h4
    exact ⟨fun e => e.elim (fun e => h5 (.inr (.inl e.symm))) fun e => e.elim (fun e => h6 (.inl e.symm)) h7, fun e => e.elim (fun e => h5 (.inl e)) fun e => h5 (.inr (.inr e)), fun e => h6 (.inr e), h8⟩
theorem RS.swap {x y : Nat × TypeId × Array Value} (h : RS w0 g (x :: y :: os) l w) : RS w0 g (y :: x :: os) l w := by
  obtain ⟨h1, h2, h3, h4⟩ := h
  refine ⟨h1, h2, fun z hz => h3 z ?_, ?_⟩
  · simp only [List.mem_cons] at hz ⊢
    rcases hz with h | h | h
    · exact .inr (.inl h)
    · exact .inl h
    · exact .inr (.inr h)
  · simp only [List.map_cons, List.nodup_cons, List.mem_cons] at h4 ⊢
    obtain ⟨h5, h6, h7⟩ := h4
    exact ⟨fun e => e.elim (fun e => h5 (.inl e.symm)) h6, fun e => h5 (.inr e), h7⟩
/-- A store into the object at hand. -/
theorem RS.set_ {b : Nat} {t : TypeId} {cs : Array Value} (h : RS w0 g ((b, t, cs) :: os) l w) (i : Nat) (u : Value) : RS w0 g ((b, t, cs.setIfInBounds i u) :: os) l (w.setCell ⟨b, i, none⟩ u) := by
  obtain ⟨hr, hg, ho, hn⟩ := h
  obtain ⟨h1, h2, h3⟩ := ho _ (.head _)
  refine ⟨Blk.far hr (by simp; exact fun e => h2 e.symm) _, grown_set hg _ h3, ?_, by simpa using hn⟩
  intro x hx
  rcases List.mem_cons.1 hx with rfl | hx
  · exact ⟨h1.set_ i u, h2, h3⟩
  · obtain ⟨k1, k2, k3⟩ := ho x (.tail _ hx)
    refine ⟨k1.far ?_ _, k2, k3⟩
    simp only [List.map_cons, List.nodup_cons] at hn
    intro e
    exact hn.1 (List.mem_map.2 ⟨x, hx, e⟩)
end

def rM4 (v : List UInt8) (lo a b c d : Int) (r : List UInt8) : Option (Rule × List UInt8) :=
  (numM .i32 4 r).bind fun g => (numM .u8 1 g.2).bind fun h => (numM .i32 4 h.2).bind fun i => (shortM i.2).map fun j => (⟨⟨v.toArray⟩, lo, 1000000, a, b, c, d, g.1, h.1, i.1, ⟨j.1.toArray⟩⟩, j.2)
def rM (v : List UInt8) (lo : Int) (k : Nat) (a b c d : Int) (r : List UInt8) : Option (Rule × List UInt8) :=
  match k with
  | 0 => (numM .u8 1 r).bind fun e => (numM .u8 1 e.2).bind fun f => (numM .u8 1 f.2).bind fun g => (numM .u8 1 g.2).bind fun h => rM4 v lo e.1 f.1 g.1 h.1 h.2
  | 1 => (numM .u8 1 r).bind fun f => (numM .u8 1 f.2).bind fun g => (numM .u8 1 g.2).bind fun h => rM4 v lo a f.1 g.1 h.1 h.2
  | 2 => (numM .u8 1 r).bind fun g => (numM .u8 1 g.2).bind fun h => rM4 v lo a b g.1 h.1 h.2
  | 3 => (numM .u8 1 r).bind fun h => rM4 v lo a b c h.1 h.2
  | _ => rM4 v lo a b c d r
def ruleM (l : List UInt8) : Option (Rule × List UInt8) := (shortM l).bind fun a => (numM .u16 2 a.2).bind fun b => rM a.1 b.1 0 0 0 0 0 b.2

theorem RP.cases {α : Type} {enc : α → Value} {g : Nat} {w : World} {r : Option (α × List UInt8)} {e : Ending} {w' : World} (h : RP enc g w r e w') :
    (r = none ∧ e = badE ∧ w.grownBy w' (some g)) ∨ ∃ v rest, r = some (v, rest) ∧ e = .returned (enc v) ∧ Rd w' g rest ∧ w.grownBy w' (some g) := by
  obtain ⟨hg, h⟩ := h
  rcases r with _ | ⟨v, rest⟩
  · exact .inl ⟨rfl, h, hg⟩
  · exact .inr ⟨v, rest, rfl, h.1, h.2, hg⟩
theorem RP.fail {α : Type} {enc : α → Value} {g : Nat} {w : World} {r : Option (α × List UInt8)} {w' : World} (h : r = none) (hg : w.grownBy w' (some g)) : RP enc g w r badE w' := by
  subst h
  exact ⟨hg, rfl⟩

theorem numM_u16 {k : Nat} {l rest : List UInt8} {n : Int} (h : numM .u16 k l = some (n, rest)) : 0 ≤ n ∧ n < 65536 := by
  unfold numM takeM at h
  split at h
  · simp only [Option.map_some, Option.some.injEq, Prod.mk.injEq] at h
    rw [IntKind.wrap_u16] at h
    exact ⟨by omega, by omega⟩
  · cases h
theorem numM_i32 {k : Nat} {l rest : List UInt8} {n : Int} (h : numM .i32 k l = some (n, rest)) : -2147483648 ≤ n ∧ n < 2147483648 := by
  unfold numM takeM at h
  split at h
  · simp only [Option.map_some, Option.some.injEq, Prod.mk.injEq] at h
    rw [IntKind.wrap_i32] at h
    exact ⟨by omega, by omega⟩
  · cases h
def zRule : Array Value := #[.string ⟨#[]⟩, .int .i64 0, .int .i64 0, .int .i64 0, .int .i64 0, .int .i64 0, .int .i64 0, .int .i64 0, .int .i64 0, .int .i64 0, .string ⟨#[]⟩]
set_option maxRecDepth 100000 in
theorem rrule_any (g : Nat) (l : List UInt8) (w : World) (h : Rd w g l) :
    Calls Tryz.prog 63 #[.pointer (some ⟨g, 0, none⟩)] w (RP (fun r : Rule => .agg r.cells.toArray) g w (ruleM l)) := by
  go_enter Tryz.func63, Tryz.ntmps63
  have HS := Lib.hid ((RS.start h).new (t := 52) (cs := zRule)); clear h
  simp only [zRule] at HS
  obtain ⟨R, hR⟩ : ∃ R, ruleM l = R := ⟨_, rfl⟩
  have HM := Lib.hid hR
  rw [hR]
  unfold ruleM at hR
  have Hm := Lib.hid hR; clear hR
  go_wp2_with (first
    | (go_at_call 56; refine (short_any g _ _ HS.out.rd).mono ?_; rintro e w1 hr; rcases hr.cases with ⟨hm, rfl, hg⟩ | ⟨v, rest, hm, rfl, hrd, hg⟩; (exact ⟨rfl, RP.fail (by rw [← Hm.out, hm]; rfl) (gr3 HS.out.out hg)⟩); (have hs := HS.out.step hrd hg; have ho := Hm.out; simp only [hm, Option.bind_some] at ho; have HS := Lib.hid hs; have Hm := Lib.hid ho; clear hm hr hrd hg hs ho))
    | (go_at_call 84; refine (num_u16 2 g _ _ HS.out.rd (by omega)).mono ?_; rintro e w2 hr; rcases hr.cases with ⟨hm, rfl, hg⟩ | ⟨v2, rest2, hm, rfl, hrd, hg⟩; (exact ⟨rfl, RP.fail (by rw [← Hm.out, hm]; rfl) (gr3 HS.out.out hg)⟩); (obtain ⟨hv0, hv1⟩ := numM_u16 hm; have hs := HS.out.step hrd hg; have ho := Hm.out; simp only [hm, Option.bind_some] at ho; have HS := Lib.hid hs; have Hm := Lib.hid ho; clear hm hr hrd hg hs ho)))
  have hs := (HS.out.new (t := 52) (cs := #[.string ⟨v.toArray⟩, .int .i64 v2, .int .i64 1000000, .int .i64 0, .int .i64 0, .int .i64 0, .int .i64 0, .int .i64 0, .int .i64 0, .int .i64 0, .string ⟨#[]⟩]))
  have hs2 := hs.new (t := 145) (cs := #[.pointer (some ⟨w2.heap.size, 3, none⟩), .pointer (some ⟨w2.heap.size, 4, none⟩), .pointer (some ⟨w2.heap.size, 5, none⟩), .pointer (some ⟨w2.heap.size, 6, none⟩)])
  have HS := Lib.hid hs2
  clear hs hs2
  go_loopw [5, 22] (fun _ i wr => ∃ (k : Nat) (a b c d : Int) (r : List UInt8), k ≤ 4 ∧ i = .int .i64 k ∧ (k ≤ 3 → d = 0) ∧ (k ≤ 2 → c = 0) ∧ (k ≤ 1 → b = 0) ∧ (k = 0 → a = 0) ∧ rM v v2 k a b c d r = R ∧
      RS w g [(w2.heap.size, 52, #[.string ⟨v.toArray⟩, .int .i64 v2, .int .i64 1000000, .int .i64 a, .int .i64 b, .int .i64 c, .int .i64 d, .int .i64 0, .int .i64 0, .int .i64 0, .string ⟨#[]⟩]),
        (w2.heap.size + 1, 145, #[.pointer (some ⟨w2.heap.size, 3, none⟩), .pointer (some ⟨w2.heap.size, 4, none⟩), .pointer (some ⟨w2.heap.size, 5, none⟩), .pointer (some ⟨w2.heap.size, 6, none⟩)]),
        (w.heap.size, 52, #[.string ⟨#[]⟩, .int .i64 0, .int .i64 0, .int .i64 0, .int .i64 0, .int .i64 0, .int .i64 0, .int .i64 0, .int .i64 0, .int .i64 0, .string ⟨#[]⟩])] r wr) (fun _ i _ => 4 - (intOf i).toNat)
  case atStart => exact ⟨0, 0, 0, 0, 0, _, by omega, rfl, fun _ => rfl, fun _ => rfl, fun _ => rfl, fun _ => rfl, Hm.out, by simpa using HS.out.swap⟩
  case round =>
    clear HS Hm
    obtain ⟨k, a, b, c, d, r, hk, rfl, hd, hc, hb, ha, hm, hs⟩ := hrel
    have HS := Lib.hid hs
    have Hm := Lib.hid hm
    clear hs hm
    by_cases hk4 : k < 4
    · have cc := fun i => (HS.out.blk (.tail _ (.head _))).cell i
      have hk' : k = 0 ∨ k = 1 ∨ k = 2 ∨ k = 3 := by omega
      rcases hk' with rfl | rfl | rfl | rfl
      · obtain rfl := hd (by omega)
        obtain rfl := hc (by omega)
        obtain rfl := hb (by omega)
        obtain rfl := ha (by omega)
        go_wp2_with (go_at_call 62; refine (num_u8 1 g _ _ HS.out.rd (by omega)).mono ?_; rintro e w3 hr; rcases hr.cases with ⟨hm, rfl, hg⟩ | ⟨x, rest3, hm, rfl, hrd, hg⟩; (exact ⟨rfl, RP.fail (by rw [← Hm.out, rM, hm]; rfl) (gr3 HS.out.out hg)⟩); (obtain ⟨hv0, hv1, _⟩ := numM_u8 hm; have hs := HS.out.step hrd hg; have ho := Hm.out; simp only [rM, hm, Option.bind_some] at ho; have HS := Lib.hid hs; have Hm := Lib.hid ho; have ff := fun i => (hs.blk (.head _)).frozen i; have fc := fun i => (hs.blk (.head _)).cell i; clear hm hr hrd hg hs ho))
        exact ⟨⟨1, x, 0, 0, 0, rest3, by omega, by go_num, (fun _ => rfl), (fun _ => rfl), (fun _ => rfl), (by omega), Hm.out, by simpa using HS.out.set_ 3 (.int .i64 x)⟩, by simp [intOf]⟩
      · obtain rfl := hd (by omega)
        obtain rfl := hc (by omega)
        obtain rfl := hb (by omega)
        go_wp2_with (go_at_call 62; refine (num_u8 1 g _ _ HS.out.rd (by omega)).mono ?_; rintro e w3 hr; rcases hr.cases with ⟨hm, rfl, hg⟩ | ⟨x, rest3, hm, rfl, hrd, hg⟩; (exact ⟨rfl, RP.fail (by rw [← Hm.out, rM, hm]; rfl) (gr3 HS.out.out hg)⟩); (obtain ⟨hv0, hv1, _⟩ := numM_u8 hm; have hs := HS.out.step hrd hg; have ho := Hm.out; simp only [rM, hm, Option.bind_some] at ho; have HS := Lib.hid hs; have Hm := Lib.hid ho; have ff := fun i => (hs.blk (.head _)).frozen i; have fc := fun i => (hs.blk (.head _)).cell i; clear hm hr hrd hg hs ho))
        exact ⟨⟨2, a, x, 0, 0, rest3, by omega, by go_num, (fun _ => rfl), (fun _ => rfl), (by omega), (by omega), Hm.out, by simpa using HS.out.set_ 4 (.int .i64 x)⟩, by simp [intOf]⟩
      · obtain rfl := hd (by omega)
        obtain rfl := hc (by omega)
        go_wp2_with (go_at_call 62; refine (num_u8 1 g _ _ HS.out.rd (by omega)).mono ?_; rintro e w3 hr; rcases hr.cases with ⟨hm, rfl, hg⟩ | ⟨x, rest3, hm, rfl, hrd, hg⟩; (exact ⟨rfl, RP.fail (by rw [← Hm.out, rM, hm]; rfl) (gr3 HS.out.out hg)⟩); (obtain ⟨hv0, hv1, _⟩ := numM_u8 hm; have hs := HS.out.step hrd hg; have ho := Hm.out; simp only [rM, hm, Option.bind_some] at ho; have HS := Lib.hid hs; have Hm := Lib.hid ho; have ff := fun i => (hs.blk (.head _)).frozen i; have fc := fun i => (hs.blk (.head _)).cell i; clear hm hr hrd hg hs ho))
        exact ⟨⟨3, a, b, x, 0, rest3, by omega, by go_num, (fun _ => rfl), (by omega), (by omega), (by omega), Hm.out, by simpa using HS.out.set_ 5 (.int .i64 x)⟩, by simp [intOf]⟩
      · obtain rfl := hd (by omega)
        go_wp2_with (go_at_call 62; refine (num_u8 1 g _ _ HS.out.rd (by omega)).mono ?_; rintro e w3 hr; rcases hr.cases with ⟨hm, rfl, hg⟩ | ⟨x, rest3, hm, rfl, hrd, hg⟩; (exact ⟨rfl, RP.fail (by rw [← Hm.out, rM, hm]; rfl) (gr3 HS.out.out hg)⟩); (obtain ⟨hv0, hv1, _⟩ := numM_u8 hm; have hs := HS.out.step hrd hg; have ho := Hm.out; simp only [rM, hm, Option.bind_some] at ho; have HS := Lib.hid hs; have Hm := Lib.hid ho; have ff := fun i => (hs.blk (.head _)).frozen i; have fc := fun i => (hs.blk (.head _)).cell i; clear hm hr hrd hg hs ho))
        exact ⟨⟨4, a, b, c, x, rest3, by omega, by go_num, (by omega), (by omega), (by omega), (by omega), Hm.out, by simpa using HS.out.set_ 6 (.int .i64 x)⟩, by simp [intOf]⟩
    · obtain rfl : k = 4 := by omega
      clear hd hc hb ha
      have hm := Hm.out
      simp only [rM, rM4] at hm
      have Hm := Lib.hid hm
      clear hm
      go_wp2_with (first
        | (go_at_call 60; have tk := tok; refine (num_i32 4 g _ _ HS.out.rd (by omega)).mono ?_; rintro e w3 hr; rcases hr.cases with ⟨hm, rfl, hg⟩ | ⟨y, r2, hm, rfl, hrd, hg⟩; (exact ⟨rfl, RP.fail (by rw [← Hm.out, hm]; rfl) (gr3 HS.out.out hg)⟩); (obtain ⟨hy0, hy1⟩ := numM_i32 hm; have hs := HS.out.step hrd hg; have ho := Hm.out; simp only [hm, Option.bind_some] at ho; have ff := fun i => (hs.blk (.head _)).frozen i; have fc := fun i => (hs.blk (.head _)).cell i; have hs := hs.set_ 9 (.int .i64 y); simp only [List.setIfInBounds_toArray, List.set_cons_succ, List.set_cons_zero] at hs; have HS := Lib.hid hs; have Hm := Lib.hid ho; clear hm hr hrd hg hs ho))
        | (go_at_call 60; refine (num_i32 4 g _ _ HS.out.rd (by omega)).mono ?_; rintro e w3 hr; rcases hr.cases with ⟨hm, rfl, hg⟩ | ⟨x, r1, hm, rfl, hrd, hg⟩; (exact ⟨rfl, RP.fail (by rw [← Hm.out, hm]; rfl) (gr3 HS.out.out hg)⟩); (obtain ⟨hx0, hx1⟩ := numM_i32 hm; have hs := HS.out.step hrd hg; have ho := Hm.out; simp only [hm, Option.bind_some] at ho; have ff := fun i => (hs.blk (.head _)).frozen i; have fc := fun i => (hs.blk (.head _)).cell i; have hs := hs.set_ 7 (.int .i64 x); simp only [List.setIfInBounds_toArray, List.set_cons_succ, List.set_cons_zero] at hs; have HS := Lib.hid hs; have Hm := Lib.hid ho; clear hm hr hrd hg hs ho; have tok : True := trivial))
        | (go_at_call 62; refine (num_u8 1 g _ _ HS.out.rd (by omega)).mono ?_; rintro e w3 hr; rcases hr.cases with ⟨hm, rfl, hg⟩ | ⟨z, r3, hm, rfl, hrd, hg⟩; (exact ⟨rfl, RP.fail (by rw [← Hm.out, hm]; rfl) (gr3 HS.out.out hg)⟩); (obtain ⟨hz0, hz1, _⟩ := numM_u8 hm; have hs := HS.out.step hrd hg; have ho := Hm.out; simp only [hm, Option.bind_some] at ho; have ff := fun i => (hs.blk (.head _)).frozen i; have fc := fun i => (hs.blk (.head _)).cell i; have hs := hs.set_ 8 (.int .i64 z); simp only [List.setIfInBounds_toArray, List.set_cons_succ, List.set_cons_zero] at hs; have HS := Lib.hid hs; have Hm := Lib.hid ho; clear hm hr hrd hg hs ho))
        | (go_at_call 56; refine (short_any g _ _ HS.out.rd).mono ?_; rintro e w3 hr; rcases hr.cases with ⟨hm, rfl, hg⟩ | ⟨t, r4, hm, rfl, hrd, hg⟩; (exact ⟨rfl, RP.fail (by rw [← Hm.out, hm]; rfl) (gr3 HS.out.out hg)⟩); (have hs := HS.out.step hrd hg; have ho := Hm.out; simp only [hm, Option.map_some] at ho; have ff := fun i => (hs.blk (.head _)).frozen i; have fc := fun i => (hs.blk (.head _)).cell i; have hs := hs.set_ 10 (.string ⟨t.toArray⟩); simp only [List.setIfInBounds_toArray, List.set_cons_succ, List.set_cons_zero] at hs; have fR := fun i => (hs.blk (.tail _ (.tail _ (.head _)))).frozen i; have cR := fun i => (hs.blk (.tail _ (.tail _ (.head _)))).cell i; have cX := fun i => (hs.blk (.head _)).cell i; have HS := Lib.hid hs; have Hm := Lib.hid ho; clear hm hr hrd hg hs ho)))
      have hs := ((((((((((HS.out.front.set_ 0 (.string ⟨v.toArray⟩)).set_ 1 (.int .i64 v2)).set_ 2 (.int .i64 1000000)).set_ 3 (.int .i64 a)).set_ 4 (.int .i64 b)).set_ 5 (.int .i64 c)).set_ 6 (.int .i64 d)).set_ 7 (.int .i64 x)).set_ 8 (.int .i64 z)).set_ 9 (.int .i64 y)).set_ 10 (.string ⟨t.toArray⟩)
      simp only [List.setIfInBounds_toArray, List.set_cons_succ, List.set_cons_zero] at hs
      rw [← Hm.out]
      generalize World.setCell _ ⟨w.heap.size, 10, none⟩ _ = W at *
      have hc := fun i => (hs.blk (.head _)).cell i
      refine bodyPost_ret (v := .agg (#[.string ⟨v.toArray⟩, .int .i64 v2, .int .i64 1000000, .int .i64 a, .int .i64 b, .int .i64 c, .int .i64 d, .int .i64 x, .int .i64 z, .int .i64 y, .string ⟨t.toArray⟩])) (by simp [results, Tryz.results63, go_sem, hc]) rfl ?_
      exact ⟨hs.out, rfl, hs.rd⟩
end Go.Proofs.YtaffaobhcnnfnaaGreatDoor.Rd
