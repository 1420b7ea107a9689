/-
  A refusal of Load's: its end by laws, at any frame (lemmas). Conditions: none.
-/
import Derived.Test.YtaffaobhcnnfnaaGreatDoorR15Y
namespace Go.Proofs.YtaffaobhcnnfnaaGreatDoor.R15
open Go.RowKit Mem Img Rgt Rd Plc Src

/-- A result of two parts is laid: the second one's place in slot 2, the third slot a Boolean. -/
theorem fin_zero {id d R0 : Nat} {ops : Array Oper} {o1 o2 o3 : Oper} {a : Act} {wr : World} {cs : Array Value} (ho : ops.toList = [o1, o2, o3])
    (g1 : o1.guard = none) (p1 : o1.op = .build 27 #[]) (d1 : o1.dst = some d)
    (g2 : o2.guard = none) (p2 : o2.op = .store 27 (.tmp 2) (.tmp d)) (d2 : o2.dst = none)
    (g3 : o3.guard = none) (p3 : o3.op = .assign (.const (.bool false))) (d3 : o3.dst = some 3)
    (n2 : d ≠ 2) (s1 : d < a.tmps.size) (s2 : 3 < a.tmps.size) (ha : a.tmps[2]? = some (.pointer (some ⟨R0, 0, none⟩))) (hb : Blk wr R0 27 cs) (hc : cs.size = 9) :
    (Code.region id ops false).wp Tryz.prog (fun e a' w' => e = .normal ∧ a'.tmps[2]? = some (.pointer (some ⟨R0, 0, none⟩)) ∧ a'.tmps[3]? = some (.bool false) ∧ a'.defers = a.defers ∧ w' = wr.setRow R0 zTab) a wr := by
  refine wp_region_list ?_
  rw [ho]
  have hbt : Tryz.prog.built 27 [] = some zTab := by kernel_rfl
  refine wpList_build g1 27 #[] p1 (by simp [hbt]) ?_
  have e1 : (Tryz.prog.built 27 ((#[] : Array (Nat × Operand)).map fun (i, x) => (i, a.eval x)).toList).getD #[] = zTab := by simp [hbt]
  rw [e1, d1]
  have hy : (a.put (some d) (.agg zTab)).eval (.tmp d) = .agg zTab := by
    simp [Act.eval, Act.put, Array.getD_eq_getD_getElem?, s1]
  have hx : (a.put (some d) (.agg zTab)).eval (.tmp 2) = .pointer (some ⟨R0, 0, none⟩) := by
    have h : (a.tmps.setIfInBounds d (.agg zTab))[2]? = some (.pointer (some ⟨R0, 0, none⟩)) := by rw [Array.getElem?_setIfInBounds_ne n2]; exact ha
    simp [Act.eval, Act.put, Array.getD_eq_getD_getElem?, h]
  refine wpList_store_row g2 27 (.tmp 2) (.tmp d) p2 R0 zTab hx hy 27 cs hb size27 hc tab_one ?_
  rw [d2]
  refine wpList_plain g3 fun K hK => BigFrame.wp_assign _ p3 (hK _ _ (wpList_nil ?_))
  rw [d3]
  refine ⟨rfl, ?_, ?_, rfl, rfl⟩
  · show ((a.tmps.setIfInBounds d (.agg zTab)).setIfInBounds 3 (.bool false))[2]? = _
    rw [Array.getElem?_setIfInBounds_ne (by decide), Array.getElem?_setIfInBounds_ne n2]
    exact ha
  · show ((a.tmps.setIfInBounds d (.agg zTab)).setIfInBounds 3 (.bool false))[3]? = _
    rw [Array.getElem?_setIfInBounds_self_of_lt (by simpa using s2)]
theorem fin_some {id d R0 X : Nat} {ops : Array Oper} {o1 o2 o3 : Oper} {a : Act} {wr : World} {cs : Array Value} {a0 a3 a8 : ByteArray} {a1 a2 a5 a7 : Int} {A A2 : Option Addr} {n n2 c c2 : Nat} (ho : ops.toList = [o1, o2, o3])
    (g1 : o1.guard = none) (p1 : o1.op = .load 27 (.tmp 5)) (d1 : o1.dst = some d)
    (g2 : o2.guard = none) (p2 : o2.op = .store 27 (.tmp 2) (.tmp d)) (d2 : o2.dst = none)
    (g3 : o3.guard = none) (p3 : o3.op = .assign (.const (.bool true))) (d3 : o3.dst = some 3)
    (e2 : d ≠ 2) (s1 : d < a.tmps.size) (s2 : 3 < a.tmps.size) (ha : a.tmps[2]? = some (.pointer (some ⟨R0, 0, none⟩))) (hx : a.tmps[5]? = some (.pointer (some ⟨X, 0, none⟩))) (hb : Blk wr R0 27 cs) (hc : cs.size = 9)
    (hX : Blk wr X 27 #[.string a0, .int .i64 a1, .int .i64 a2, .string a3, .slice A n c, .int .i64 a5, .slice A2 n2 c2, .int .i64 a7, .string a8]) :
    (Code.region id ops false).wp Tryz.prog (fun e a' w' => e = .normal ∧ a'.tmps[2]? = some (.pointer (some ⟨R0, 0, none⟩)) ∧ a'.tmps[3]? = some (.bool true) ∧ a'.defers = a.defers ∧ w' = wr.setRow R0 #[.string a0, .int .i64 a1, .int .i64 a2, .string a3, .slice A n c, .int .i64 a5, .slice A2 n2 c2, .int .i64 a7, .string a8]) a wr := by
  refine wp_region_list ?_
  rw [ho]
  have hev : a.eval (.tmp 5) = .pointer (some ⟨X, 0, none⟩) := by simp [Act.eval, Array.getD_eq_getD_getElem?, hx]
  have hl : (Op.load 27 (.tmp 5) : Op) = .load 27 (.tmp 5) := rfl
  have cX := fun i => hX.cell i
  refine wpList_plain g1 fun K hK => ?_
  have hstep : K (a.put (some d) (.agg #[.string a0, .int .i64 a1, .int .i64 a2, .string a3, .slice A n c, .int .i64 a5, .slice A2 n2 c2, .int .i64 a7, .string a8])) wr → o1.wp Tryz.prog a wr K (fun e a' w' => e = .normal ∧ a'.tmps[2]? = some (.pointer (some ⟨R0, 0, none⟩)) ∧ a'.tmps[3]? = some (.bool true) ∧ a'.defers = a.defers ∧ w' = wr.setRow R0 #[.string a0, .int .i64 a1, .int .i64 a2, .string a3, .slice A n c, .int .i64 a5, .slice A2 n2 c2, .int .i64 a7, .string a8]) := by
    intro hk
    unfold Oper.wp execOp
    rw [p1]
    simp only [hev]
    simp [go_sem, cX, d1]
    exact hk
  refine hstep (hK _ _ ?_)
  clear hstep hK K
  have hy : (a.put (some d) (.agg #[.string a0, .int .i64 a1, .int .i64 a2, .string a3, .slice A n c, .int .i64 a5, .slice A2 n2 c2, .int .i64 a7, .string a8])).eval (.tmp d) = .agg #[.string a0, .int .i64 a1, .int .i64 a2, .string a3, .slice A n c, .int .i64 a5, .slice A2 n2 c2, .int .i64 a7, .string a8] := by
    simp [Act.eval, Act.put, Array.getD_eq_getD_getElem?, s1]
  have hx : (a.put (some d) (.agg #[.string a0, .int .i64 a1, .int .i64 a2, .string a3, .slice A n c, .int .i64 a5, .slice A2 n2 c2, .int .i64 a7, .string a8])).eval (.tmp 2) = .pointer (some ⟨R0, 0, none⟩) := by
    have h : (a.tmps.setIfInBounds d (.agg #[.string a0, .int .i64 a1, .int .i64 a2, .string a3, .slice A n c, .int .i64 a5, .slice A2 n2 c2, .int .i64 a7, .string a8]))[2]? = some (.pointer (some ⟨R0, 0, none⟩)) := by rw [Array.getElem?_setIfInBounds_ne e2]; exact ha
    simp [Act.eval, Act.put, Array.getD_eq_getD_getElem?, h]
  refine wpList_store_row g2 27 (.tmp 2) (.tmp d) p2 R0 _ hx hy 27 cs hb size27 hc tab_one ?_
  rw [d2]
  refine wpList_plain g3 fun K hK => BigFrame.wp_assign _ p3 (hK _ _ (wpList_nil ?_))
  rw [d3]
  refine ⟨rfl, ?_, ?_, rfl, rfl⟩
  · show ((a.tmps.setIfInBounds d _).setIfInBounds 3 (.bool true))[2]? = _
    rw [Array.getElem?_setIfInBounds_ne (by decide), Array.getElem?_setIfInBounds_ne e2]
    exact ha
  · show ((a.tmps.setIfInBounds d _).setIfInBounds 3 (.bool true))[3]? = _
    rw [Array.getElem?_setIfInBounds_self_of_lt (by simpa using s2)]
/-- A refusal, from its region on to the function's end. -/
theorem end_zero {w : World} {id d : Nat} {ops : Array Oper} {o1 o2 o3 : Oper} {a : Act} {wr : World} {K : Act → World → Prop} {Q : Exit → Act → World → Prop} (ho : ops.toList = [o1, o2, o3])
    (g1 : o1.guard = none) (p1 : o1.op = .build 27 #[]) (d1 : o1.dst = some d)
    (g2 : o2.guard = none) (p2 : o2.op = .store 27 (.tmp 2) (.tmp d)) (d2 : o2.dst = none)
    (g3 : o3.guard = none) (p3 : o3.op = .assign (.const (.bool false))) (d3 : o3.dst = some 3)
    (n2 : d ≠ 2) (s1 : d < a.tmps.size) (s2 : 3 < a.tmps.size) (ha : a.tmps[2]? = some (.pointer (some ⟨w.heap.size, 0, none⟩))) (hd : a.defers = [])
    (hK : ∀ a w, Code.wp Tryz.prog Code.ret Q a w → K a w) (hQ : ∀ a' w', bodyPost Tryz.prog Tryz.f13 (LQ w none) .ret a' w' → Q .ret a' w')
    (hb : Blk wr w.heap.size 27 zTab) (hbel : Below w.heap.size w wr) : (Code.region id ops false).wp Tryz.prog (Exit.then K Q) a wr := by
  refine Code.wp_mono ?_ (fin_zero (id := id) ho g1 p1 d1 g2 p2 d2 g3 p3 d3 n2 s1 s2 ha hb rfl)
  rintro e a' w' ⟨rfl, t2, t3, t4, rfl⟩
  exact hK _ _ (wp_ret (hQ _ _ (bodyPost_ret (loadz_results (row_new (cy := zTab) hb) _ t2 t3) (t4.trans hd) ⟨row_below hbel hbel.size (Nat.le_refl _), rfl⟩)))
/-- The table, from its region on to the function's end. -/
theorem end_some {w : World} {id d X : Nat} {ops : Array Oper} {o1 o2 o3 : Oper} {a : Act} {wr : World} {K : Act → World → Prop} {Q : Exit → Act → World → Prop} {x : Table} {a0 a3 a8 : ByteArray} {a1 a2 a5 a7 : Int} {A A2 : Option Addr} {n n2 c c2 : Nat} (ho : ops.toList = [o1, o2, o3])
    (g1 : o1.guard = none) (p1 : o1.op = .load 27 (.tmp 5)) (d1 : o1.dst = some d)
    (g2 : o2.guard = none) (p2 : o2.op = .store 27 (.tmp 2) (.tmp d)) (d2 : o2.dst = none)
    (g3 : o3.guard = none) (p3 : o3.op = .assign (.const (.bool true))) (d3 : o3.dst = some 3)
    (e2 : d ≠ 2) (s1 : d < a.tmps.size) (s2 : 3 < a.tmps.size) (ha : a.tmps[2]? = some (.pointer (some ⟨w.heap.size, 0, none⟩))) (hx : a.tmps[5]? = some (.pointer (some ⟨X, 0, none⟩))) (hd : a.defers = [])
    (hK : ∀ a w, Code.wp Tryz.prog Code.ret Q a w → K a w) (hQ : ∀ a' w', bodyPost Tryz.prog Tryz.f13 (LQ w (some x)) .ret a' w' → Q .ret a' w')
    (hb : Blk wr w.heap.size 27 zTab) (hbel : Below w.heap.size w wr)
    (hX : Blk wr X 27 #[.string a0, .int .i64 a1, .int .i64 a2, .string a3, .slice A n c, .int .i64 a5, .slice A2 n2 c2, .int .i64 a7, .string a8])
    (he : Value.agg #[.string a0, .int .i64 a1, .int .i64 a2, .string a3, .slice A n c, .int .i64 a5, .slice A2 n2 c2, .int .i64 a7, .string a8] = .agg (tabCells x A c A2 c2)) (hok : TabOk x A A2 wr)
    (h1 : NewAt (w.heap.size + 1) A x.shifts.length) (h2 : NewAt (w.heap.size + 1) A2 x.tail.length) : (Code.region id ops false).wp Tryz.prog (Exit.then K Q) a wr := by
  refine Code.wp_mono ?_ (fin_some (id := id) ho g1 p1 d1 g2 p2 d2 g3 p3 d3 e2 s1 s2 ha hx hb rfl hX)
  rintro e a' w' ⟨rfl, t2, t3, t4, rfl⟩
  exact hK _ _ (wp_ret (hQ _ _ (bodyPost_ret (loadq_results (row_new hb) _ t2 t3) (t4.trans hd) ⟨row_below hbel hbel.size (Nat.le_refl _), A, c, A2, c2, congrArg (fun v => Ending.returned (.tuple #[v, .bool true])) he, tabOk_row hok h1 h2⟩)))
end Go.Proofs.YtaffaobhcnnfnaaGreatDoor.R15
