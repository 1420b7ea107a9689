/-
  DERIVED: THE SHELF's CONTRACTS AT THIS DUMP, IN PLAIN WORDS (tools/lay-plain.mjs out of 'TryzShelf.lean', which tools/lay-shelf.mjs wrote): THE SAME DECLARATIONS UNDER THE SAME NAMES: 'import', 'namespace', 'open', 'def', 'theorem' AND NOTHING ELSE: no command of the shelf's: FOR A HAND-IN. Each laying: the table of numbers ('.._ren') and one theorem, a field a fact of the dump's own or the kernel's comparison; each contract: ONE APPLICATION.
-/
import Derived.Shelf.Strings.Builder1
import Derived.Shelf.Strings.Builder2
import Derived.Shelf.Small.Strs
import Derived.Shelf.Strings.BuilderF
import Derived.Shelf.Strings.BuilderK
import Derived.Shelf.Strings.Search1
import Derived.Shelf.Strings.Search2
import Derived.Shelf.Strings.Search3
import Derived.Shelf.Strings.Cut
import Derived.Shelf.Strings.Count
import Derived.Shelf.LaysM
import Derived.Shelf.Strings.Shaped
import Derived.Shelf.Sort.Plain
import Derived.Shelf.Strings.Split
import Derived.Shelf.Strings.Replace
import Derived.Shelf.Strings.SplitShaped
import Derived.Shelf.Unicode.DecodeSlow
import Derived.Shelf.Slices.In.SortNone
import Derived.Test.YtpbojebnghcndaaGreatDoorProg
namespace Go.Proofs
open Go.Shelf
def Tryz.lays170_ren : Go.Shelf.Ren := ⟨fun | 170 => 100 | n => n, fun | 70 => 145 | 3 => 3 | 0 => 0 | 72 => 147 | 37 => 84 | 5 => 5 | n => n, fun | n => n⟩
theorem Tryz.lays170 : Go.Proofs.Lays.n170 Tryz.prog Tryz.lays170_ren := {
  mixed := by kernel_rfl
  f170 := Tryz.func100.trans (congrArg some (by kernel_rfl))
  t0 := Tryz.underlying0
  a0 := Tryz.isAgg0
  z0 := Tryz.sizeOf0
  v0 := Tryz.zeroValue0
  t3 := Tryz.underlying3
  a3 := Tryz.isAgg3
  z3 := Tryz.sizeOf3
  v3 := Tryz.zeroValue3
  t37 := Tryz.underlying84
  a37 := Tryz.isAgg84
  z37 := Tryz.sizeOf84
  v37 := Tryz.zeroValue84
  t70 := Tryz.underlying145
  a70 := Tryz.isAgg145
  z70 := Tryz.sizeOf145
  v70 := Tryz.zeroValue145
  t72 := Tryz.underlying147
  a72 := Tryz.isAgg147
  z72 := Tryz.sizeOf147
  v72 := Tryz.zeroValue147 }
open Go.RowKit in
/-- (*strings.Builder).Len: "Len returns the number of accumulated bytes; b.Len() == len(b.String()).": the world is as it was. (LAID: no walk: one application.) -/
theorem Tryz.Builder_Len (B b : Nat) (bs : List Value) (w : World) (h : Lib.IsBuilder 147 5 B b bs w) :
    Calls Tryz.prog 100 #[.pointer (some ⟨b, 0, none⟩)] w fun e w' => e = .returned (.int .i64 bs.length) ∧ w' = w := Any.Builder_Len Tryz.lays170 B b bs w h
def Tryz.lays169_ren : Go.Shelf.Ren := ⟨fun | 169 => 102 | n => n, fun | 70 => 145 | 9 => 9 | 0 => 0 | 72 => 147 | 37 => 84 | 127 => 217 | 3 => 3 | 5 => 5 | n => n, fun | n => n⟩
theorem Tryz.lays169 : Go.Proofs.Lays.n169 Tryz.prog Tryz.lays169_ren := {
  mixed := by kernel_rfl
  f169 := Tryz.func102.trans (congrArg some (by kernel_rfl))
  t0 := Tryz.underlying0
  a0 := Tryz.isAgg0
  z0 := Tryz.sizeOf0
  v0 := Tryz.zeroValue0
  t3 := Tryz.underlying3
  a3 := Tryz.isAgg3
  z3 := Tryz.sizeOf3
  v3 := Tryz.zeroValue3
  t9 := Tryz.underlying9
  a9 := Tryz.isAgg9
  z9 := Tryz.sizeOf9
  v9 := Tryz.zeroValue9
  t37 := Tryz.underlying84
  a37 := Tryz.isAgg84
  z37 := Tryz.sizeOf84
  v37 := Tryz.zeroValue84
  t70 := Tryz.underlying145
  a70 := Tryz.isAgg145
  z70 := Tryz.sizeOf145
  v70 := Tryz.zeroValue145
  t72 := Tryz.underlying147
  a72 := Tryz.isAgg147
  z72 := Tryz.sizeOf147
  v72 := Tryz.zeroValue147
  t127 := Tryz.underlying217
  a127 := Tryz.isAgg217
  z127 := Tryz.sizeOf217
  v127 := Tryz.zeroValue217 }
theorem Tryz.Builder_Extra_169 : Builder.Extra Tryz.prog Tryz.lays169_ren := {
  sizeBuilder := by kernel_rfl
  liesBuilder := by kernel_rfl
  t5 := Tryz.underlying5
  a5 := Tryz.isAgg5
  z5 := Tryz.sizeOf5
  v5 := Tryz.zeroValue5
  infoByte := by kernel_rfl
  cellsByte := by kernel_rfl
  sizeByte := by kernel_rfl
  neB5 := by decide }
open Go.RowKit in
/-- (*strings.Builder).String: "String returns the accumulated string.": OF A BUILDER THAT HOLDS AT LEAST ONE BYTE. ✋ THE MODEL FREEZES THOSE BYTES IN THE BUFFER (unsafe.String): a later write INTO them ends the model's run without an answer; a later append BEHIND them goes on. The statement's order of evaluation is drawn: one draw. (LAID: no walk: one application.) -/
theorem Tryz.Builder_String (B b : Nat) (l : List UInt8) (w : World) (h : Lib.IsBuilder 147 5 B b (Lib.byteCells l) w) (h0 : l ≠ []) :
    Calls Tryz.prog 102 #[.pointer (some ⟨b, 0, none⟩)] w fun e w' => e = .returned (.string ⟨l.toArray⟩) ∧ Below B w w' := Any.Builder_String Tryz.lays169 Tryz.Builder_Extra_169 B b l w h h0
open Go.RowKit in
/-- (*strings.Builder).String OF A BUILDER THAT HOLDS NO BYTE: the empty string. (Its buffer is nil, or a row of which it has taken nothing yet; where that row has NO capacity the model lays one new block for unsafe.SliceData's 'some address'.) One draw. (LAID: no walk: one application.) -/
theorem Tryz.Builder_String_empty (B b : Nat) (w : World) (h : Lib.IsBuilder 147 5 B b [] w) (hBw : B ≤ w.heap.size) :
    Calls Tryz.prog 102 #[.pointer (some ⟨b, 0, none⟩)] w fun e w' => e = .returned (.string ⟨#[]⟩) ∧ Below B w w' := Any.Builder_String_empty Tryz.lays169 Tryz.Builder_Extra_169 B b w h hBw
open Go.RowKit in
/-- (*strings.Builder).String: "String returns the accumulated string.": WHATEVER THE BUILDER HOLDS. (LAID: no walk: one application.) -/
theorem Tryz.Builder_String_any (B b : Nat) (l : List UInt8) (w : World) (h : Lib.IsBuilder 147 5 B b (Lib.byteCells l) w) (hBw : B ≤ w.heap.size) :
    Calls Tryz.prog 102 #[.pointer (some ⟨b, 0, none⟩)] w fun e w' => e = .returned (.string ⟨l.toArray⟩) ∧ Below B w w' := Any.Builder_String_any Tryz.lays169 Tryz.Builder_Extra_169 B b l w h hBw
def Tryz.lays241_ren : Go.Shelf.Ren := ⟨fun | 241 => 238 | 277 => 259 | n => n, fun | 70 => 145 | 3 => 3 | 0 => 0 | 72 => 147 | 37 => 84 | 5 => 5 | n => n, fun | n => n⟩
theorem Tryz.lays241 : Go.Proofs.Lays.n241 Tryz.prog Tryz.lays241_ren := {
  mixed := by kernel_rfl
  f241 := Tryz.func238.trans (congrArg some (by kernel_rfl))
  f277 := Tryz.func259.trans (congrArg some (by kernel_rfl))
  t0 := Tryz.underlying0
  a0 := Tryz.isAgg0
  z0 := Tryz.sizeOf0
  v0 := Tryz.zeroValue0
  t3 := Tryz.underlying3
  a3 := Tryz.isAgg3
  z3 := Tryz.sizeOf3
  v3 := Tryz.zeroValue3
  t37 := Tryz.underlying84
  a37 := Tryz.isAgg84
  z37 := Tryz.sizeOf84
  v37 := Tryz.zeroValue84
  t70 := Tryz.underlying145
  a70 := Tryz.isAgg145
  z70 := Tryz.sizeOf145
  v70 := Tryz.zeroValue145
  t72 := Tryz.underlying147
  a72 := Tryz.isAgg147
  z72 := Tryz.sizeOf147
  v72 := Tryz.zeroValue147 }
theorem Tryz.Builder_Extra_241 : Builder.Extra Tryz.prog Tryz.lays241_ren := {
  sizeBuilder := by kernel_rfl
  liesBuilder := by kernel_rfl
  t5 := Tryz.underlying5
  a5 := Tryz.isAgg5
  z5 := Tryz.sizeOf5
  v5 := Tryz.zeroValue5
  infoByte := by kernel_rfl
  cellsByte := by kernel_rfl
  sizeByte := by kernel_rfl
  neB5 := by decide }
open Go.RowKit in
/-- (*strings.Builder).grow (no doc but "grow copies the buffer to a new, larger buffer so that there are at least n bytes of capacity beyond len(b.buf)."): AT A BUILDER WITHOUT A BUFFER: a new row of whatever bytes for its buffer, none of them its own yet. Three draws. (LAID: no walk: one application.) -/
theorem Tryz.Builder_grow_fresh (B b n : Nat) (w : World) (hB : B ≤ b) (hbk : w.heap[b]? = some (.cells #[.pointer (some ⟨b, 0, none⟩), .slice none 0 0] 147 (0, 0))) (hBw : B ≤ w.heap.size) (hn : n ≤ 281474976710656) :
    Calls Tryz.prog 238 #[.pointer (some ⟨b, 0, none⟩), .int .i64 n] w fun e w' => e = .returned (.tuple #[]) ∧ (Lib.BuilderAt 147 5 B b (.pointer (some ⟨b, 0, none⟩)) [] w' ∧ Below B w w') := Any.Builder_grow_fresh Tryz.lays241 Tryz.Builder_Extra_241 B b n w hB hbk hBw hn
def Tryz.lays165_ren : Go.Shelf.Ren := ⟨fun | 165 => 182 | 240 => 171 | 241 => 238 | 276 => 231 | 277 => 259 | n => n, fun | 70 => 145 | 3 => 3 | 0 => 0 | 4 => 4 | 9 => 9 | 20 => 20 | 72 => 147 | 37 => 84 | 164 => 257 | 5 => 5 | n => n, fun | n => n⟩
theorem Tryz.lays165 : Go.Proofs.Lays.n165 Tryz.prog Tryz.lays165_ren := {
  mixed := by kernel_rfl
  f165 := Tryz.func182.trans (congrArg some (by kernel_rfl))
  f240 := Tryz.func171.trans (congrArg some (by kernel_rfl))
  f241 := Tryz.func238.trans (congrArg some (by kernel_rfl))
  f276 := Tryz.func231.trans (congrArg some (by kernel_rfl))
  f277 := Tryz.func259.trans (congrArg some (by kernel_rfl))
  t0 := Tryz.underlying0
  a0 := Tryz.isAgg0
  z0 := Tryz.sizeOf0
  v0 := Tryz.zeroValue0
  t3 := Tryz.underlying3
  a3 := Tryz.isAgg3
  z3 := Tryz.sizeOf3
  v3 := Tryz.zeroValue3
  t4 := Tryz.underlying4
  a4 := Tryz.isAgg4
  z4 := Tryz.sizeOf4
  v4 := Tryz.zeroValue4
  t9 := Tryz.underlying9
  a9 := Tryz.isAgg9
  z9 := Tryz.sizeOf9
  v9 := Tryz.zeroValue9
  t20 := Tryz.underlying20
  a20 := Tryz.isAgg20
  z20 := Tryz.sizeOf20
  v20 := Tryz.zeroValue20
  t37 := Tryz.underlying84
  a37 := Tryz.isAgg84
  z37 := Tryz.sizeOf84
  v37 := Tryz.zeroValue84
  t70 := Tryz.underlying145
  a70 := Tryz.isAgg145
  z70 := Tryz.sizeOf145
  v70 := Tryz.zeroValue145
  t72 := Tryz.underlying147
  a72 := Tryz.isAgg147
  z72 := Tryz.sizeOf147
  v72 := Tryz.zeroValue147
  t164 := Tryz.underlying257
  a164 := Tryz.isAgg257
  z164 := Tryz.sizeOf257
  v164 := Tryz.zeroValue257 }
theorem Tryz.Builder_Extra_165 : Builder.Extra Tryz.prog Tryz.lays165_ren := {
  sizeBuilder := by kernel_rfl
  liesBuilder := by kernel_rfl
  t5 := Tryz.underlying5
  a5 := Tryz.isAgg5
  z5 := Tryz.sizeOf5
  v5 := Tryz.zeroValue5
  infoByte := by kernel_rfl
  cellsByte := by kernel_rfl
  sizeByte := by kernel_rfl
  neB5 := by decide }
open Go.RowKit in
/-- (*strings.Builder).Grow AT A BUILDER THAT HAS NOT BEEN WRITTEN ('var b strings.Builder; b.Grow(n)'): "Grow grows b's capacity, if necessary, to guarantee space for another n bytes.": it holds no byte behind it as before it. (LAID: no walk: one application.) -/
theorem Tryz.Builder_Grow_fresh (B b n : Nat) (w : World) (hB : B ≤ b) (hbk : w.heap[b]? = some (.cells #[.pointer none, .slice none 0 0] 147 (0, 0))) (hBw : B ≤ w.heap.size) (hn : n ≤ 281474976710656) :
    Calls Tryz.prog 182 #[.pointer (some ⟨b, 0, none⟩), .int .i64 n] w fun e w' => e = .returned (.tuple #[]) ∧ (Lib.BuilderAt 147 5 B b (.pointer (some ⟨b, 0, none⟩)) [] w' ∧ Below B w w') := Any.Builder_Grow_fresh Tryz.lays165 Tryz.Builder_Extra_165 B b n w hB hbk hBw hn
def Tryz.lays137_ren : Go.Shelf.Ren := ⟨fun | 137 => 188 | 217 => 241 | 266 => 260 | n => n, fun | 9 => 9 | 5 => 5 | 3 => 3 | n => n, fun | n => n⟩
theorem Tryz.lays137 : Go.Proofs.Lays.n137 Tryz.prog Tryz.lays137_ren := {
  mixed := by kernel_rfl
  f137 := Tryz.func188.trans (congrArg some (by kernel_rfl))
  f217 := Tryz.func241.trans (congrArg some (by kernel_rfl))
  f266 := Tryz.func260.trans (congrArg some (by kernel_rfl))
  t3 := Tryz.underlying3
  a3 := Tryz.isAgg3
  z3 := Tryz.sizeOf3
  v3 := Tryz.zeroValue3
  t5 := Tryz.underlying5
  a5 := Tryz.isAgg5
  z5 := Tryz.sizeOf5
  v5 := Tryz.zeroValue5
  t9 := Tryz.underlying9
  a9 := Tryz.isAgg9
  z9 := Tryz.sizeOf9
  v9 := Tryz.zeroValue9 }
open Go.RowKit in
/-- strings.IndexByte: "IndexByte returns the index of the first instance of c in s, or -1 if c is not present in s.": IT RETURNS 'Lib.indexByte s c'; the world is as it was. (LAID: no walk: one application.) -/
theorem Tryz.strings_IndexByte (s : ByteArray) (c : Int) (w : World) :
    Calls Tryz.prog 188 #[.string s, .int .u8 c] w fun e w' => e = .returned (.int .i64 (Lib.indexByte s.data.toList c.toNat.toUInt8)) ∧ w' = w := Any.strings_IndexByte Tryz.lays137 s c w
open Go.RowKit in
/-- (*strings.Builder).Len: "Len returns the number of accumulated bytes; b.Len() == len(b.String()).": the world is as it was. (THE FORM '_f': 'Lib.IsBuilderF'.) (LAID: no walk: one application.) -/
theorem Tryz.Builder_Len_f (B b : Nat) (bs : List Value) (w : World) (h : Lib.IsBuilderF 147 5 B b bs w) :
    Calls Tryz.prog 100 #[.pointer (some ⟨b, 0, none⟩)] w fun e w' => e = .returned (.int .i64 bs.length) ∧ w' = w := Any.Builder_Len_f Tryz.lays170 B b bs w h
open Go.RowKit in
/-- (*strings.Builder).String: "String returns the accumulated string.": OF A BUILDER THAT HOLDS AT LEAST ONE BYTE. ✋ THE MODEL FREEZES THOSE BYTES IN THE BUFFER (unsafe.String): a later write INTO them ends the model's run without an answer; a later append BEHIND them goes on. The statement's order of evaluation is drawn: one draw. THE FORM '_f': IT SAYS BESIDES THAT THE BUILDER IS A BUILDER STILL ('Lib.IsBuilderF', the same bytes): SO IT CAN BE WRITTEN ON: 'b.WriteString(b.String()[:k])'. (LAID: no walk: one application.) -/
theorem Tryz.Builder_String_f (B b : Nat) (l : List UInt8) (w : World) (h : Lib.IsBuilderF 147 5 B b (Lib.byteCells l) w) (h0 : l ≠ []) :
    Calls Tryz.prog 102 #[.pointer (some ⟨b, 0, none⟩)] w fun e w' => e = .returned (.string ⟨l.toArray⟩) ∧ (Lib.IsBuilderF 147 5 B b (Lib.byteCells l) w' ∧ Below B w w') := Any.Builder_String_f Tryz.lays169 Tryz.Builder_Extra_169 B b l w h h0
open Go.RowKit in
/-- (*strings.Builder).String OF A BUILDER THAT HOLDS NO BYTE: the empty string; THE FORM '_f': a builder still. (LAID: no walk: one application.) -/
theorem Tryz.Builder_String_empty_f (B b : Nat) (w : World) (h : Lib.IsBuilderF 147 5 B b [] w) (hBw : B ≤ w.heap.size) :
    Calls Tryz.prog 102 #[.pointer (some ⟨b, 0, none⟩)] w fun e w' => e = .returned (.string ⟨#[]⟩) ∧ (Lib.IsBuilderF 147 5 B b [] w' ∧ Below B w w') := Any.Builder_String_empty_f Tryz.lays169 Tryz.Builder_Extra_169 B b w h hBw
open Go.RowKit in
/-- (*strings.Builder).String: "String returns the accumulated string.": WHATEVER THE BUILDER HOLDS; THE FORM '_f': OF A BUILDER THAT MAY HAVE BEEN READ BEFORE; AND IT IS A BUILDER STILL, holding the same bytes: it can be written on. (LAID: no walk: one application.) -/
theorem Tryz.Builder_String_any_f (B b : Nat) (l : List UInt8) (w : World) (h : Lib.IsBuilderF 147 5 B b (Lib.byteCells l) w) (hBw : B ≤ w.heap.size) :
    Calls Tryz.prog 102 #[.pointer (some ⟨b, 0, none⟩)] w fun e w' => e = .returned (.string ⟨l.toArray⟩) ∧ (Lib.IsBuilderF 147 5 B b (Lib.byteCells l) w' ∧ Below B w w') := Any.Builder_String_any_f Tryz.lays169 Tryz.Builder_Extra_169 B b l w h hBw
open Go.RowKit in
/-- (*strings.Builder).String: "String returns the accumulated string.": OF A BUILDER THAT HOLDS AT LEAST ONE BYTE. ✋ THE MODEL FREEZES THOSE BYTES IN THE BUFFER (unsafe.String): a later write INTO them ends the model's run without an answer; a later append BEHIND them goes on. The statement's order of evaluation is drawn: one draw. THE FORM '_k': OVER 'Lib.IsBuilderF' (a builder that 'String()' may have read), AND WITH THE FRAME THAT REACHES ABOVE THE BUILDER: 'Lib.OthersKept': every block that is not b and is no row of uint8's stands as it stood: the iterator of a range among them. (LAID: no walk: one application.) -/
theorem Tryz.Builder_String_k (B b : Nat) (l : List UInt8) (w : World) (h : Lib.IsBuilderF 147 5 B b (Lib.byteCells l) w) (h0 : l ≠ []) :
    Calls Tryz.prog 102 #[.pointer (some ⟨b, 0, none⟩)] w fun e w' => e = .returned (.string ⟨l.toArray⟩) ∧ (Lib.IsBuilderF 147 5 B b (Lib.byteCells l) w' ∧ Below B w w' ∧ Lib.OthersKept 5 (some b) w w') := Any.Builder_String_k Tryz.lays169 Tryz.Builder_Extra_169 B b l w h h0
open Go.RowKit in
/-- (*strings.Builder).String OF A BUILDER THAT HOLDS NO BYTE: the empty string; THE FORM '_k': OVER 'Lib.IsBuilderF' (a builder that 'String()' may have read), AND WITH THE FRAME THAT REACHES ABOVE THE BUILDER: 'Lib.OthersKept': every block that is not b and is no row of uint8's stands as it stood: the iterator of a range among them. (LAID: no walk: one application.) -/
theorem Tryz.Builder_String_empty_k (B b : Nat) (w : World) (h : Lib.IsBuilderF 147 5 B b [] w) (hBw : B ≤ w.heap.size) :
    Calls Tryz.prog 102 #[.pointer (some ⟨b, 0, none⟩)] w fun e w' => e = .returned (.string ⟨#[]⟩) ∧ (Lib.IsBuilderF 147 5 B b [] w' ∧ Below B w w' ∧ Lib.OthersKept 5 (some b) w w') := Any.Builder_String_empty_k Tryz.lays169 Tryz.Builder_Extra_169 B b w h hBw
open Go.RowKit in
/-- (*strings.Builder).String: "String returns the accumulated string.": WHATEVER THE BUILDER HOLDS; THE FORM '_k': OVER 'Lib.IsBuilderF' (a builder that 'String()' may have read), AND WITH THE FRAME THAT REACHES ABOVE THE BUILDER: 'Lib.OthersKept': every block that is not b and is no row of uint8's stands as it stood: the iterator of a range among them. (LAID: no walk: one application.) -/
theorem Tryz.Builder_String_any_k (B b : Nat) (l : List UInt8) (w : World) (h : Lib.IsBuilderF 147 5 B b (Lib.byteCells l) w) (hBw : B ≤ w.heap.size) :
    Calls Tryz.prog 102 #[.pointer (some ⟨b, 0, none⟩)] w fun e w' => e = .returned (.string ⟨l.toArray⟩) ∧ (Lib.IsBuilderF 147 5 B b (Lib.byteCells l) w' ∧ Below B w w' ∧ Lib.OthersKept 5 (some b) w w') := Any.Builder_String_any_k Tryz.lays169 Tryz.Builder_Extra_169 B b l w h hBw
def Tryz.lays217_ren : Go.Shelf.Ren := ⟨fun | 217 => 241 | 266 => 260 | n => n, fun | 9 => 9 | 5 => 5 | 3 => 3 | n => n, fun | n => n⟩
theorem Tryz.lays217 : Go.Proofs.Lays.n217 Tryz.prog Tryz.lays217_ren := {
  mixed := by kernel_rfl
  f217 := Tryz.func241.trans (congrArg some (by kernel_rfl))
  f266 := Tryz.func260.trans (congrArg some (by kernel_rfl))
  t3 := Tryz.underlying3
  a3 := Tryz.isAgg3
  z3 := Tryz.sizeOf3
  v3 := Tryz.zeroValue3
  t5 := Tryz.underlying5
  a5 := Tryz.isAgg5
  z5 := Tryz.sizeOf5
  v5 := Tryz.zeroValue5
  t9 := Tryz.underlying9
  a9 := Tryz.isAgg9
  z9 := Tryz.sizeOf9
  v9 := Tryz.zeroValue9 }
open Go.RowKit Go.Lib in
/-- internal/stringslite.IndexByte (what strings.IndexByte calls): IT RETURNS 'Lib.indexByte s c'; the world is as it was. (LAID: no walk: one application.) -/
theorem Tryz.stringslite_IndexByte (s : ByteArray) (c : Int) (w : World) :
    Calls Tryz.prog 241 #[.string s, .int .u8 c] w fun e w' => e = .returned (.int .i64 (Lib.indexByte s.data.toList c.toNat.toUInt8)) ∧ w' = w := Any.stringslite_IndexByte Tryz.lays217 s c w
def Tryz.lays224_ren : Go.Shelf.Ren := ⟨fun | 224 => 257 | n => n, fun | 3 => 3 | n => n, fun | n => n⟩
theorem Tryz.lays224 : Go.Proofs.Lays.n224 Tryz.prog Tryz.lays224_ren := {
  mixed := by kernel_rfl
  f224 := Tryz.func257.trans (congrArg some (by kernel_rfl))
  t3 := Tryz.underlying3
  a3 := Tryz.isAgg3
  z3 := Tryz.sizeOf3
  v3 := Tryz.zeroValue3 }
open Go.RowKit Go.Lib in
/-- internal/bytealg.Cutover: "Cutover reports the number of failures of IndexByte we should tolerate before switching over to Index. n is the number of bytes processed so far.": on amd64: (n + 16) / 8. (LAID: no walk: one application.) -/
theorem Tryz.bytealg_Cutover (n : Int) (h0 : 0 ≤ n) (h1 : n < 4611686018427387904) (w : World) :
    Calls Tryz.prog 257 #[.int .i64 n] w fun e w' => e = .returned (.int .i64 ((n + 16) / 8)) ∧ w' = w := Any.bytealg_Cutover Tryz.lays224 n h0 h1 w
def Tryz.lays314_ren : Go.Shelf.Ren := ⟨fun | 314 => 286 | n => n, fun | 9 => 9 | 51 => 79 | 3 => 3 | 4 => 4 | 5 => 5 | 46 => 175 | n => n, fun | n => n⟩
theorem Tryz.lays314 : Go.Proofs.Lays.n314 Tryz.prog Tryz.lays314_ren := {
  mixed := by kernel_rfl
  f314 := Tryz.func286.trans (congrArg some (by kernel_rfl))
  t3 := Tryz.underlying3
  a3 := Tryz.isAgg3
  z3 := Tryz.sizeOf3
  v3 := Tryz.zeroValue3
  t4 := Tryz.underlying4
  a4 := Tryz.isAgg4
  z4 := Tryz.sizeOf4
  v4 := Tryz.zeroValue4
  t5 := Tryz.underlying5
  a5 := Tryz.isAgg5
  z5 := Tryz.sizeOf5
  v5 := Tryz.zeroValue5
  t9 := Tryz.underlying9
  a9 := Tryz.isAgg9
  z9 := Tryz.sizeOf9
  v9 := Tryz.zeroValue9
  t46 := Tryz.underlying175
  a46 := Tryz.isAgg175
  z46 := Tryz.sizeOf175
  v46 := Tryz.zeroValue175
  t51 := Tryz.underlying79
  a51 := Tryz.isAgg79
  z51 := Tryz.sizeOf79
  v51 := Tryz.zeroValue79 }
open Go.RowKit Go.Lib in
/-- hashStr: "returns the hash and the appropriate multiplicative factor for use in Rabin-Karp algorithm": THE HASH OF ALL OF sep, AND 16777619 ^ len(sep), both in uint32. (LAID: no walk: one application.) -/
theorem Tryz.bytealg_hashStr (sep : ByteArray) (hs : sep.size < 4294967281) (w : World) :
    Calls Tryz.prog 286 #[.string sep] w fun e w' => e = .returned (.tuple #[.int .u32 (RK.H sep.data.toList % 4294967296), .int .u32 (16777619 ^ sep.size % 4294967296)]) ∧ w' = w := Any.bytealg_hashStr Tryz.lays314 sep hs w
def Tryz.lays267_ren : Go.Shelf.Ren := ⟨fun | 267 => 258 | 314 => 286 | n => n, fun | 9 => 9 | 3 => 3 | 146 => 296 | 51 => 79 | 4 => 4 | 5 => 5 | 46 => 175 | n => n, fun | n => n⟩
theorem Tryz.lays267 : Go.Proofs.Lays.n267 Tryz.prog Tryz.lays267_ren := {
  mixed := by kernel_rfl
  f267 := Tryz.func258.trans (congrArg some (by kernel_rfl))
  f314 := Tryz.func286.trans (congrArg some (by kernel_rfl))
  t3 := Tryz.underlying3
  a3 := Tryz.isAgg3
  z3 := Tryz.sizeOf3
  v3 := Tryz.zeroValue3
  t4 := Tryz.underlying4
  a4 := Tryz.isAgg4
  z4 := Tryz.sizeOf4
  v4 := Tryz.zeroValue4
  t5 := Tryz.underlying5
  a5 := Tryz.isAgg5
  z5 := Tryz.sizeOf5
  v5 := Tryz.zeroValue5
  t9 := Tryz.underlying9
  a9 := Tryz.isAgg9
  z9 := Tryz.sizeOf9
  v9 := Tryz.zeroValue9
  t46 := Tryz.underlying175
  a46 := Tryz.isAgg175
  z46 := Tryz.sizeOf175
  v46 := Tryz.zeroValue175
  t51 := Tryz.underlying79
  a51 := Tryz.isAgg79
  z51 := Tryz.sizeOf79
  v51 := Tryz.zeroValue79
  t146 := Tryz.underlying296
  a146 := Tryz.isAgg296
  z146 := Tryz.sizeOf296
  v146 := Tryz.zeroValue296 }
open Go.RowKit Go.Lib in
theorem Tryz.bytealg_IndexRabinKarp (s sep : ByteArray) (h1 : 1 ≤ sep.size) (h2 : sep.size ≤ s.size) (hs : s.size < 4294967281) (w : World) :
    Calls Tryz.prog 258 #[.string s, .string sep] w fun e w' => e = .returned (.int .i64 (Lib.index s.data.toList sep.data.toList)) ∧ w' = w := Any.bytealg_IndexRabinKarp Tryz.lays267 s sep h1 h2 hs w
def Tryz.lays219_ren : Go.Shelf.Ren := ⟨fun | 219 => 235 | 217 => 241 | 225 => 256 | 224 => 257 | 267 => 258 | 266 => 260 | 314 => 286 | n => n, fun | 9 => 9 | 3 => 3 | 4 => 4 | 5 => 5 | 46 => 175 | 146 => 296 | 51 => 79 | n => n, fun | 1 => 0 | n => n⟩
theorem Tryz.lays219 : Go.Proofs.Lays.n219 Tryz.prog Tryz.lays219_ren := {
  mixed := by kernel_rfl
  f217 := Tryz.func241.trans (congrArg some (by kernel_rfl))
  f219 := Tryz.func235.trans (congrArg some (by kernel_rfl))
  f224 := Tryz.func257.trans (congrArg some (by kernel_rfl))
  f225 := Tryz.func256.trans (congrArg some (by kernel_rfl))
  f266 := Tryz.func260.trans (congrArg some (by kernel_rfl))
  f267 := Tryz.func258.trans (congrArg some (by kernel_rfl))
  f314 := Tryz.func286.trans (congrArg some (by kernel_rfl))
  t3 := Tryz.underlying3
  a3 := Tryz.isAgg3
  z3 := Tryz.sizeOf3
  v3 := Tryz.zeroValue3
  t4 := Tryz.underlying4
  a4 := Tryz.isAgg4
  z4 := Tryz.sizeOf4
  v4 := Tryz.zeroValue4
  t5 := Tryz.underlying5
  a5 := Tryz.isAgg5
  z5 := Tryz.sizeOf5
  v5 := Tryz.zeroValue5
  t9 := Tryz.underlying9
  a9 := Tryz.isAgg9
  z9 := Tryz.sizeOf9
  v9 := Tryz.zeroValue9
  t46 := Tryz.underlying175
  a46 := Tryz.isAgg175
  z46 := Tryz.sizeOf175
  v46 := Tryz.zeroValue175
  t51 := Tryz.underlying79
  a51 := Tryz.isAgg79
  z51 := Tryz.sizeOf79
  v51 := Tryz.zeroValue79
  t146 := Tryz.underlying296
  a146 := Tryz.isAgg296
  z146 := Tryz.sizeOf296
  v146 := Tryz.zeroValue296
  g1 := by kernel_rfl }
open Go.RowKit Go.Lib in
/-- internal/stringslite.Index (what strings.Index calls) AT A substr OF ONE BYTE c: IT RETURNS 'Lib.indexByte s c'; the world is as it was. (LAID: no walk: one application.) -/
theorem Tryz.stringslite_Index_one (s : ByteArray) (c : UInt8) (w : World) :
    Calls Tryz.prog 235 #[.string s, .string ⟨#[c]⟩] w fun e w' => e = .returned (.int .i64 (Lib.indexByte s.data.toList c)) ∧ w' = w := Any.stringslite_Index_one Tryz.lays219 s c w
open Go.RowKit Go.Lib in
/-- internal/stringslite.Index (what strings.Index calls) AT A substr OF WHATEVER LENGTH: IT RETURNS 'Lib.index s substr'; the world is as it was. 'm': what internal/bytealg.MaxLen holds: whatever. (LAID: no walk: one application.) -/
theorem Tryz.stringslite_Index (s sub : ByteArray) (m : Int) (w : World) (hs : s.size < 4294967281) (hm : w.cell? ⟨0, 0, none⟩ = some (.int .i64 m)) :
    Calls Tryz.prog 235 #[.string s, .string sub] w fun e w' => e = .returned (.int .i64 (Lib.index s.data.toList sub.data.toList)) ∧ w' = w := Any.stringslite_Index Tryz.lays219 s sub m w hs hm
def Tryz.lays143_ren : Go.Shelf.Ren := ⟨fun | 143 => 180 | 219 => 235 | 217 => 241 | 225 => 256 | 224 => 257 | 267 => 258 | 266 => 260 | 314 => 286 | n => n, fun | 9 => 9 | 3 => 3 | 4 => 4 | 5 => 5 | 46 => 175 | 146 => 296 | 51 => 79 | n => n, fun | 1 => 0 | n => n⟩
theorem Tryz.lays143 : Go.Proofs.Lays.n143 Tryz.prog Tryz.lays143_ren := {
  mixed := by kernel_rfl
  f143 := Tryz.func180.trans (congrArg some (by kernel_rfl))
  f217 := Tryz.func241.trans (congrArg some (by kernel_rfl))
  f219 := Tryz.func235.trans (congrArg some (by kernel_rfl))
  f224 := Tryz.func257.trans (congrArg some (by kernel_rfl))
  f225 := Tryz.func256.trans (congrArg some (by kernel_rfl))
  f266 := Tryz.func260.trans (congrArg some (by kernel_rfl))
  f267 := Tryz.func258.trans (congrArg some (by kernel_rfl))
  f314 := Tryz.func286.trans (congrArg some (by kernel_rfl))
  t3 := Tryz.underlying3
  a3 := Tryz.isAgg3
  z3 := Tryz.sizeOf3
  v3 := Tryz.zeroValue3
  t4 := Tryz.underlying4
  a4 := Tryz.isAgg4
  z4 := Tryz.sizeOf4
  v4 := Tryz.zeroValue4
  t5 := Tryz.underlying5
  a5 := Tryz.isAgg5
  z5 := Tryz.sizeOf5
  v5 := Tryz.zeroValue5
  t9 := Tryz.underlying9
  a9 := Tryz.isAgg9
  z9 := Tryz.sizeOf9
  v9 := Tryz.zeroValue9
  t46 := Tryz.underlying175
  a46 := Tryz.isAgg175
  z46 := Tryz.sizeOf175
  v46 := Tryz.zeroValue175
  t51 := Tryz.underlying79
  a51 := Tryz.isAgg79
  z51 := Tryz.sizeOf79
  v51 := Tryz.zeroValue79
  t146 := Tryz.underlying296
  a146 := Tryz.isAgg296
  z146 := Tryz.sizeOf296
  v146 := Tryz.zeroValue296
  g1 := by kernel_rfl }
open Go.RowKit Go.Lib in
/-- strings.Index: "Index returns the index of the first instance of substr in s, or -1 if substr is not present in s.": AT A substr OF ONE BYTE c: IT RETURNS 'Lib.indexByte s c'; the world is as it was. (LAID: no walk: one application.) -/
theorem Tryz.strings_Index_one (s : ByteArray) (c : UInt8) (w : World) :
    Calls Tryz.prog 180 #[.string s, .string ⟨#[c]⟩] w fun e w' => e = .returned (.int .i64 (Lib.indexByte s.data.toList c)) ∧ w' = w := Any.strings_Index_one Tryz.lays143 s c w
open Go.RowKit Go.Lib in
/-- strings.Index: "Index returns the index of the first instance of substr in s, or -1 if substr is not present in s.": IT RETURNS 'Lib.index s substr'; the world is as it was. (LAID: no walk: one application.) -/
theorem Tryz.strings_Index (s sub : ByteArray) (m : Int) (w : World) (hs : s.size < 4294967281) (hm : w.cell? ⟨0, 0, none⟩ = some (.int .i64 m)) :
    Calls Tryz.prog 180 #[.string s, .string sub] w fun e w' => e = .returned (.int .i64 (Lib.index s.data.toList sub.data.toList)) ∧ w' = w := Any.strings_Index Tryz.lays143 s sub m w hs hm
def Tryz.lays144_ren : Go.Shelf.Ren := ⟨fun | 144 => 118 | 143 => 180 | 219 => 235 | 217 => 241 | 225 => 256 | 224 => 257 | 267 => 258 | 266 => 260 | 314 => 286 | n => n, fun | 9 => 9 | 4 => 4 | 3 => 3 | 5 => 5 | 46 => 175 | 146 => 296 | 51 => 79 | n => n, fun | 1 => 0 | n => n⟩
theorem Tryz.lays144 : Go.Proofs.Lays.n144 Tryz.prog Tryz.lays144_ren := {
  mixed := by kernel_rfl
  f143 := Tryz.func180.trans (congrArg some (by kernel_rfl))
  f144 := Tryz.func118.trans (congrArg some (by kernel_rfl))
  f217 := Tryz.func241.trans (congrArg some (by kernel_rfl))
  f219 := Tryz.func235.trans (congrArg some (by kernel_rfl))
  f224 := Tryz.func257.trans (congrArg some (by kernel_rfl))
  f225 := Tryz.func256.trans (congrArg some (by kernel_rfl))
  f266 := Tryz.func260.trans (congrArg some (by kernel_rfl))
  f267 := Tryz.func258.trans (congrArg some (by kernel_rfl))
  f314 := Tryz.func286.trans (congrArg some (by kernel_rfl))
  t3 := Tryz.underlying3
  a3 := Tryz.isAgg3
  z3 := Tryz.sizeOf3
  v3 := Tryz.zeroValue3
  t4 := Tryz.underlying4
  a4 := Tryz.isAgg4
  z4 := Tryz.sizeOf4
  v4 := Tryz.zeroValue4
  t5 := Tryz.underlying5
  a5 := Tryz.isAgg5
  z5 := Tryz.sizeOf5
  v5 := Tryz.zeroValue5
  t9 := Tryz.underlying9
  a9 := Tryz.isAgg9
  z9 := Tryz.sizeOf9
  v9 := Tryz.zeroValue9
  t46 := Tryz.underlying175
  a46 := Tryz.isAgg175
  z46 := Tryz.sizeOf175
  v46 := Tryz.zeroValue175
  t51 := Tryz.underlying79
  a51 := Tryz.isAgg79
  z51 := Tryz.sizeOf79
  v51 := Tryz.zeroValue79
  t146 := Tryz.underlying296
  a146 := Tryz.isAgg296
  z146 := Tryz.sizeOf296
  v146 := Tryz.zeroValue296
  g1 := by kernel_rfl }
open Go.RowKit Go.Lib in
/-- strings.Contains: "Contains reports whether substr is within s.": AT A substr OF ONE BYTE c: IT RETURNS 'decide (0 ≤ Lib.indexByte s c)'; the world is as it was. (LAID: no walk: one application.) -/
theorem Tryz.strings_Contains_one (s : ByteArray) (c : UInt8) (w : World) :
    Calls Tryz.prog 118 #[.string s, .string ⟨#[c]⟩] w fun e w' => e = .returned (.bool (decide (0 ≤ Lib.indexByte s.data.toList c))) ∧ w' = w := Any.strings_Contains_one Tryz.lays144 s c w
open Go.RowKit Go.Lib in
/-- strings.Contains: "Contains reports whether substr is within s.": IT RETURNS 'Lib.contains s substr'; the world is as it was. (LAID: no walk: one application.) -/
theorem Tryz.strings_Contains (s sub : ByteArray) (m : Int) (w : World) (hs : s.size < 4294967281) (hm : w.cell? ⟨0, 0, none⟩ = some (.int .i64 m)) :
    Calls Tryz.prog 118 #[.string s, .string sub] w fun e w' => e = .returned (.bool (Lib.contains s.data.toList sub.data.toList)) ∧ w' = w := Any.strings_Contains Tryz.lays144 s sub m w hs hm
def Tryz.lays220_ren : Go.Shelf.Ren := ⟨fun | 220 => 185 | 219 => 235 | 217 => 241 | 225 => 256 | 224 => 257 | 267 => 258 | 266 => 260 | 314 => 286 | n => n, fun | 9 => 9 | 4 => 4 | 3 => 3 | 5 => 5 | 46 => 175 | 146 => 296 | 51 => 79 | n => n, fun | 1 => 0 | n => n⟩
theorem Tryz.lays220 : Go.Proofs.Lays.n220 Tryz.prog Tryz.lays220_ren := {
  mixed := by kernel_rfl
  f217 := Tryz.func241.trans (congrArg some (by kernel_rfl))
  f219 := Tryz.func235.trans (congrArg some (by kernel_rfl))
  f220 := Tryz.func185.trans (congrArg some (by kernel_rfl))
  f224 := Tryz.func257.trans (congrArg some (by kernel_rfl))
  f225 := Tryz.func256.trans (congrArg some (by kernel_rfl))
  f266 := Tryz.func260.trans (congrArg some (by kernel_rfl))
  f267 := Tryz.func258.trans (congrArg some (by kernel_rfl))
  f314 := Tryz.func286.trans (congrArg some (by kernel_rfl))
  t3 := Tryz.underlying3
  a3 := Tryz.isAgg3
  z3 := Tryz.sizeOf3
  v3 := Tryz.zeroValue3
  t4 := Tryz.underlying4
  a4 := Tryz.isAgg4
  z4 := Tryz.sizeOf4
  v4 := Tryz.zeroValue4
  t5 := Tryz.underlying5
  a5 := Tryz.isAgg5
  z5 := Tryz.sizeOf5
  v5 := Tryz.zeroValue5
  t9 := Tryz.underlying9
  a9 := Tryz.isAgg9
  z9 := Tryz.sizeOf9
  v9 := Tryz.zeroValue9
  t46 := Tryz.underlying175
  a46 := Tryz.isAgg175
  z46 := Tryz.sizeOf175
  v46 := Tryz.zeroValue175
  t51 := Tryz.underlying79
  a51 := Tryz.isAgg79
  z51 := Tryz.sizeOf79
  v51 := Tryz.zeroValue79
  t146 := Tryz.underlying296
  a146 := Tryz.isAgg296
  z146 := Tryz.sizeOf296
  v146 := Tryz.zeroValue296
  g1 := by kernel_rfl }
open Go.RowKit Go.Lib in
/-- internal/stringslite.Cut (what strings.Cut calls): IT RETURNS 'Lib.cut s sep'; the world is as it was but for the count of draws. (LAID: no walk: one application.) -/
theorem Tryz.stringslite_Cut (s sep : ByteArray) (m : Int) (w : World) (hs : s.size < 4294967281) (hm : w.cell? ⟨0, 0, none⟩ = some (.int .i64 m)) :
    Calls Tryz.prog 185 #[.string s, .string sep] w fun e w' => e = .returned (.tuple #[.string ⟨(Lib.cut s.data.toList sep.data.toList).1.toArray⟩, .string ⟨(Lib.cut s.data.toList sep.data.toList).2.1.toArray⟩, .bool (Lib.cut s.data.toList sep.data.toList).2.2]) ∧ ∃ n, w' = w.drewN n := Any.stringslite_Cut Tryz.lays220 s sep m w hs hm
def Tryz.lays145_ren : Go.Shelf.Ren := ⟨fun | 145 => 121 | 220 => 185 | 219 => 235 | 217 => 241 | 225 => 256 | 224 => 257 | 267 => 258 | 266 => 260 | 314 => 286 | n => n, fun | 9 => 9 | 4 => 4 | 59 => 173 | 3 => 3 | 5 => 5 | 46 => 175 | 146 => 296 | 51 => 79 | n => n, fun | 1 => 0 | n => n⟩
theorem Tryz.lays145 : Go.Proofs.Lays.n145 Tryz.prog Tryz.lays145_ren := {
  mixed := by kernel_rfl
  f145 := Tryz.func121.trans (congrArg some (by kernel_rfl))
  f217 := Tryz.func241.trans (congrArg some (by kernel_rfl))
  f219 := Tryz.func235.trans (congrArg some (by kernel_rfl))
  f220 := Tryz.func185.trans (congrArg some (by kernel_rfl))
  f224 := Tryz.func257.trans (congrArg some (by kernel_rfl))
  f225 := Tryz.func256.trans (congrArg some (by kernel_rfl))
  f266 := Tryz.func260.trans (congrArg some (by kernel_rfl))
  f267 := Tryz.func258.trans (congrArg some (by kernel_rfl))
  f314 := Tryz.func286.trans (congrArg some (by kernel_rfl))
  t3 := Tryz.underlying3
  a3 := Tryz.isAgg3
  z3 := Tryz.sizeOf3
  v3 := Tryz.zeroValue3
  t4 := Tryz.underlying4
  a4 := Tryz.isAgg4
  z4 := Tryz.sizeOf4
  v4 := Tryz.zeroValue4
  t5 := Tryz.underlying5
  a5 := Tryz.isAgg5
  z5 := Tryz.sizeOf5
  v5 := Tryz.zeroValue5
  t9 := Tryz.underlying9
  a9 := Tryz.isAgg9
  z9 := Tryz.sizeOf9
  v9 := Tryz.zeroValue9
  t46 := Tryz.underlying175
  a46 := Tryz.isAgg175
  z46 := Tryz.sizeOf175
  v46 := Tryz.zeroValue175
  t51 := Tryz.underlying79
  a51 := Tryz.isAgg79
  z51 := Tryz.sizeOf79
  v51 := Tryz.zeroValue79
  t59 := Tryz.underlying173
  a59 := Tryz.isAgg173
  z59 := Tryz.sizeOf173
  v59 := Tryz.zeroValue173
  t146 := Tryz.underlying296
  a146 := Tryz.isAgg296
  z146 := Tryz.sizeOf296
  v146 := Tryz.zeroValue296
  g1 := by kernel_rfl }
open Go.RowKit Go.Lib in
/-- strings.Cut: "Cut slices s around the first instance of sep, returning the text before and after sep. The found result reports whether sep appears in s. If sep does not appear in s, cut returns s, "", false.": IT RETURNS 'Lib.cut s sep'; the world is as it was but for the count of draws. (LAID: no walk: one application.) -/
theorem Tryz.strings_Cut (s sep : ByteArray) (m : Int) (w : World) (hs : s.size < 4294967281) (hm : w.cell? ⟨0, 0, none⟩ = some (.int .i64 m)) :
    Calls Tryz.prog 121 #[.string s, .string sep] w fun e w' => e = .returned (.tuple #[.string ⟨(Lib.cut s.data.toList sep.data.toList).1.toArray⟩, .string ⟨(Lib.cut s.data.toList sep.data.toList).2.1.toArray⟩, .bool (Lib.cut s.data.toList sep.data.toList).2.2]) ∧ ∃ n, w' = w.drewN n := Any.strings_Cut Tryz.lays145 s sep m w hs hm
def Tryz.lays138_ren : Go.Shelf.Ren := ⟨fun | 138 => 181 | 195 => 236 | 218 => 237 | 143 => 180 | 219 => 235 | 217 => 241 | 225 => 256 | 224 => 257 | 267 => 258 | 266 => 260 | 314 => 286 | n => n, fun | 9 => 9 | 3 => 3 | 4 => 4 | 5 => 5 | 0 => 0 | 46 => 175 | 146 => 296 | 51 => 79 | n => n, fun | 1 => 0 | n => n⟩
theorem Tryz.lays138 : Go.Proofs.Lays.n138 Tryz.prog Tryz.lays138_ren := {
  mixed := by kernel_rfl
  f138 := Tryz.func181.trans (congrArg some (by kernel_rfl))
  f143 := Tryz.func180.trans (congrArg some (by kernel_rfl))
  f195 := Tryz.func236.trans (congrArg some (by kernel_rfl))
  f217 := Tryz.func241.trans (congrArg some (by kernel_rfl))
  f218 := Tryz.func237.trans (congrArg some (by kernel_rfl))
  f219 := Tryz.func235.trans (congrArg some (by kernel_rfl))
  f224 := Tryz.func257.trans (congrArg some (by kernel_rfl))
  f225 := Tryz.func256.trans (congrArg some (by kernel_rfl))
  f266 := Tryz.func260.trans (congrArg some (by kernel_rfl))
  f267 := Tryz.func258.trans (congrArg some (by kernel_rfl))
  f314 := Tryz.func286.trans (congrArg some (by kernel_rfl))
  t0 := Tryz.underlying0
  a0 := Tryz.isAgg0
  z0 := Tryz.sizeOf0
  v0 := Tryz.zeroValue0
  t3 := Tryz.underlying3
  a3 := Tryz.isAgg3
  z3 := Tryz.sizeOf3
  v3 := Tryz.zeroValue3
  t4 := Tryz.underlying4
  a4 := Tryz.isAgg4
  z4 := Tryz.sizeOf4
  v4 := Tryz.zeroValue4
  t5 := Tryz.underlying5
  a5 := Tryz.isAgg5
  z5 := Tryz.sizeOf5
  v5 := Tryz.zeroValue5
  t9 := Tryz.underlying9
  a9 := Tryz.isAgg9
  z9 := Tryz.sizeOf9
  v9 := Tryz.zeroValue9
  t46 := Tryz.underlying175
  a46 := Tryz.isAgg175
  z46 := Tryz.sizeOf175
  v46 := Tryz.zeroValue175
  t51 := Tryz.underlying79
  a51 := Tryz.isAgg79
  z51 := Tryz.sizeOf79
  v51 := Tryz.zeroValue79
  t146 := Tryz.underlying296
  a146 := Tryz.isAgg296
  z146 := Tryz.sizeOf296
  v146 := Tryz.zeroValue296
  g1 := by kernel_rfl }
open Go.RowKit Go.Lib in
/-- strings.Count AT A substr OF ONE BYTE ('hp'): "Count counts the number of non-overlapping instances of substr in s.": IT RETURNS 'Lib.countByte s (that byte)'; the world is as it was. ✋ NO CONTRACT HERE YET at an empty substr (utf8.RuneCountInString) or at a longer one (a loop over strings.Index). (LAID: no walk: one application.) -/
theorem Tryz.strings_Count_one (s : ByteArray) (c : UInt8) (w : World) :
    Calls Tryz.prog 181 #[.string s, .string ⟨#[c]⟩] w fun e w' => e = .returned (.int .i64 (Lib.countByte s.data.toList c)) ∧ w' = w := Any.strings_Count_one Tryz.lays138 s c w
open Go.RowKit Go.Lib in
/-- strings.Count AT A substr OF TWO BYTES OR MORE: "Count counts the number of non-overlapping instances of substr in s.": IT RETURNS 'Lib.count s substr'; the world is as it was. (LAID: no walk: one application.) -/
theorem Tryz.strings_Count (s sub : ByteArray) (m : Int) (w : World) (hs : s.size < 4294967281) (hm : w.cell? ⟨0, 0, none⟩ = some (.int .i64 m)) (h2 : 2 ≤ sub.size) :
    Calls Tryz.prog 181 #[.string s, .string sub] w fun e w' => e = .returned (.int .i64 (Lib.countB s sub)) ∧ w' = w := Any.strings_Count Tryz.lays138 s sub m w hs hm h2
def Tryz.laysM219_ren : Go.Shelf.Ren := ⟨fun | 219 => 235 | 217 => 241 | 225 => 256 | 224 => 257 | 267 => 258 | 266 => 260 | 314 => 286 | n => n, fun | 9 => 9 | 3 => 3 | 4 => 4 | 5 => 5 | 46 => 175 | 146 => 296 | 51 => 79 | n => n, fun | 1 => 0 | n => n⟩
theorem Tryz.laysM219 : Go.Proofs.LaysM.n219 Tryz.prog Tryz.laysM219_ren := {
  mixed := by kernel_rfl
  f217 := Tryz.func241.trans (congrArg some (by kernel_rfl))
  f219 := Tryz.func235.trans (congrArg some (by kernel_rfl))
  f224 := Tryz.func257.trans (congrArg some (by kernel_rfl))
  f225 := Tryz.func256.trans (congrArg some (by kernel_rfl))
  f266 := Tryz.func260.trans (congrArg some (by kernel_rfl))
  f267 := Tryz.func258.trans (congrArg some (by kernel_rfl))
  f314 := Tryz.func286.trans (congrArg some (by kernel_rfl))
  t3 := Tryz.underlying3
  a3 := Tryz.isAgg3
  z3 := Tryz.sizeOf3
  v3 := Tryz.zeroValue3
  t4 := Tryz.underlying4
  a4 := Tryz.isAgg4
  z4 := Tryz.sizeOf4
  v4 := Tryz.zeroValue4
  t5 := Tryz.underlying5
  a5 := Tryz.isAgg5
  z5 := Tryz.sizeOf5
  v5 := Tryz.zeroValue5
  t9 := Tryz.underlying9
  a9 := Tryz.isAgg9
  z9 := Tryz.sizeOf9
  v9 := Tryz.zeroValue9
  t46 := Tryz.underlying175
  a46 := Tryz.isAgg175
  z46 := Tryz.sizeOf175
  v46 := Tryz.zeroValue175
  t51 := Tryz.underlying79
  a51 := Tryz.isAgg79
  z51 := Tryz.sizeOf79
  v51 := Tryz.zeroValue79
  t146 := Tryz.underlying296
  a146 := Tryz.isAgg296
  z146 := Tryz.sizeOf296
  v146 := Tryz.zeroValue296
  g1 := by kernel_rfl
  i3 := by kernel_rfl
  i4 := by kernel_rfl
  i5 := by kernel_rfl
  i9 := by kernel_rfl
  i46 := by kernel_rfl
  i51 := by kernel_rfl
  i146 := by kernel_rfl
  m1 := by kernel_rfl
  s1_3 := fun w h => Go.Proofs.cell_of_shapedOpen_int (zero := #[.int .i64 0]) (t := 3) h (of_decide_eq_true (by kernel_rfl)) (by kernel_rfl) rfl (by kernel_rfl) (by kernel_rfl) Tryz.underlying3 }
open Go.RowKit Go.Lib in
theorem Tryz.stringslite_Index_shaped (s sub : ByteArray) (w : World) (h : w.ShapedOpen Tryz.prog) (hs : s.size < 4294967281) :
    Calls Tryz.prog 235 #[.string s, .string sub] w fun e w' => e = .returned (.int .i64 (Lib.index s.data.toList sub.data.toList)) ∧ w' = w := Any.stringslite_Index_shaped Tryz.laysM219 s sub w h hs
def Tryz.laysM143_ren : Go.Shelf.Ren := ⟨fun | 143 => 180 | 219 => 235 | 217 => 241 | 225 => 256 | 224 => 257 | 267 => 258 | 266 => 260 | 314 => 286 | n => n, fun | 9 => 9 | 3 => 3 | 4 => 4 | 5 => 5 | 46 => 175 | 146 => 296 | 51 => 79 | n => n, fun | 1 => 0 | n => n⟩
theorem Tryz.laysM143 : Go.Proofs.LaysM.n143 Tryz.prog Tryz.laysM143_ren := {
  mixed := by kernel_rfl
  f143 := Tryz.func180.trans (congrArg some (by kernel_rfl))
  f217 := Tryz.func241.trans (congrArg some (by kernel_rfl))
  f219 := Tryz.func235.trans (congrArg some (by kernel_rfl))
  f224 := Tryz.func257.trans (congrArg some (by kernel_rfl))
  f225 := Tryz.func256.trans (congrArg some (by kernel_rfl))
  f266 := Tryz.func260.trans (congrArg some (by kernel_rfl))
  f267 := Tryz.func258.trans (congrArg some (by kernel_rfl))
  f314 := Tryz.func286.trans (congrArg some (by kernel_rfl))
  t3 := Tryz.underlying3
  a3 := Tryz.isAgg3
  z3 := Tryz.sizeOf3
  v3 := Tryz.zeroValue3
  t4 := Tryz.underlying4
  a4 := Tryz.isAgg4
  z4 := Tryz.sizeOf4
  v4 := Tryz.zeroValue4
  t5 := Tryz.underlying5
  a5 := Tryz.isAgg5
  z5 := Tryz.sizeOf5
  v5 := Tryz.zeroValue5
  t9 := Tryz.underlying9
  a9 := Tryz.isAgg9
  z9 := Tryz.sizeOf9
  v9 := Tryz.zeroValue9
  t46 := Tryz.underlying175
  a46 := Tryz.isAgg175
  z46 := Tryz.sizeOf175
  v46 := Tryz.zeroValue175
  t51 := Tryz.underlying79
  a51 := Tryz.isAgg79
  z51 := Tryz.sizeOf79
  v51 := Tryz.zeroValue79
  t146 := Tryz.underlying296
  a146 := Tryz.isAgg296
  z146 := Tryz.sizeOf296
  v146 := Tryz.zeroValue296
  g1 := by kernel_rfl
  i3 := by kernel_rfl
  i4 := by kernel_rfl
  i5 := by kernel_rfl
  i9 := by kernel_rfl
  i46 := by kernel_rfl
  i51 := by kernel_rfl
  i146 := by kernel_rfl
  m1 := by kernel_rfl
  s1_3 := fun w h => Go.Proofs.cell_of_shapedOpen_int (zero := #[.int .i64 0]) (t := 3) h (of_decide_eq_true (by kernel_rfl)) (by kernel_rfl) rfl (by kernel_rfl) (by kernel_rfl) Tryz.underlying3 }
open Go.RowKit Go.Lib in
theorem Tryz.strings_Index_shaped (s sub : ByteArray) (w : World) (h : w.ShapedOpen Tryz.prog) (hs : s.size < 4294967281) :
    Calls Tryz.prog 180 #[.string s, .string sub] w fun e w' => e = .returned (.int .i64 (Lib.index s.data.toList sub.data.toList)) ∧ w' = w := Any.strings_Index_shaped Tryz.laysM143 s sub w h hs
def Tryz.laysM144_ren : Go.Shelf.Ren := ⟨fun | 144 => 118 | 143 => 180 | 219 => 235 | 217 => 241 | 225 => 256 | 224 => 257 | 267 => 258 | 266 => 260 | 314 => 286 | n => n, fun | 9 => 9 | 4 => 4 | 3 => 3 | 5 => 5 | 46 => 175 | 146 => 296 | 51 => 79 | n => n, fun | 1 => 0 | n => n⟩
theorem Tryz.laysM144 : Go.Proofs.LaysM.n144 Tryz.prog Tryz.laysM144_ren := {
  mixed := by kernel_rfl
  f143 := Tryz.func180.trans (congrArg some (by kernel_rfl))
  f144 := Tryz.func118.trans (congrArg some (by kernel_rfl))
  f217 := Tryz.func241.trans (congrArg some (by kernel_rfl))
  f219 := Tryz.func235.trans (congrArg some (by kernel_rfl))
  f224 := Tryz.func257.trans (congrArg some (by kernel_rfl))
  f225 := Tryz.func256.trans (congrArg some (by kernel_rfl))
  f266 := Tryz.func260.trans (congrArg some (by kernel_rfl))
  f267 := Tryz.func258.trans (congrArg some (by kernel_rfl))
  f314 := Tryz.func286.trans (congrArg some (by kernel_rfl))
  t3 := Tryz.underlying3
  a3 := Tryz.isAgg3
  z3 := Tryz.sizeOf3
  v3 := Tryz.zeroValue3
  t4 := Tryz.underlying4
  a4 := Tryz.isAgg4
  z4 := Tryz.sizeOf4
  v4 := Tryz.zeroValue4
  t5 := Tryz.underlying5
  a5 := Tryz.isAgg5
  z5 := Tryz.sizeOf5
  v5 := Tryz.zeroValue5
  t9 := Tryz.underlying9
  a9 := Tryz.isAgg9
  z9 := Tryz.sizeOf9
  v9 := Tryz.zeroValue9
  t46 := Tryz.underlying175
  a46 := Tryz.isAgg175
  z46 := Tryz.sizeOf175
  v46 := Tryz.zeroValue175
  t51 := Tryz.underlying79
  a51 := Tryz.isAgg79
  z51 := Tryz.sizeOf79
  v51 := Tryz.zeroValue79
  t146 := Tryz.underlying296
  a146 := Tryz.isAgg296
  z146 := Tryz.sizeOf296
  v146 := Tryz.zeroValue296
  g1 := by kernel_rfl
  i3 := by kernel_rfl
  i4 := by kernel_rfl
  i5 := by kernel_rfl
  i9 := by kernel_rfl
  i46 := by kernel_rfl
  i51 := by kernel_rfl
  i146 := by kernel_rfl
  m1 := by kernel_rfl
  s1_3 := fun w h => Go.Proofs.cell_of_shapedOpen_int (zero := #[.int .i64 0]) (t := 3) h (of_decide_eq_true (by kernel_rfl)) (by kernel_rfl) rfl (by kernel_rfl) (by kernel_rfl) Tryz.underlying3 }
open Go.RowKit Go.Lib in
theorem Tryz.strings_Contains_shaped (s sub : ByteArray) (w : World) (h : w.ShapedOpen Tryz.prog) (hs : s.size < 4294967281) :
    Calls Tryz.prog 118 #[.string s, .string sub] w fun e w' => e = .returned (.bool (Lib.contains s.data.toList sub.data.toList)) ∧ w' = w := Any.strings_Contains_shaped Tryz.laysM144 s sub w h hs
def Tryz.laysM220_ren : Go.Shelf.Ren := ⟨fun | 220 => 185 | 219 => 235 | 217 => 241 | 225 => 256 | 224 => 257 | 267 => 258 | 266 => 260 | 314 => 286 | n => n, fun | 9 => 9 | 4 => 4 | 3 => 3 | 5 => 5 | 46 => 175 | 146 => 296 | 51 => 79 | n => n, fun | 1 => 0 | n => n⟩
theorem Tryz.laysM220 : Go.Proofs.LaysM.n220 Tryz.prog Tryz.laysM220_ren := {
  mixed := by kernel_rfl
  f217 := Tryz.func241.trans (congrArg some (by kernel_rfl))
  f219 := Tryz.func235.trans (congrArg some (by kernel_rfl))
  f220 := Tryz.func185.trans (congrArg some (by kernel_rfl))
  f224 := Tryz.func257.trans (congrArg some (by kernel_rfl))
  f225 := Tryz.func256.trans (congrArg some (by kernel_rfl))
  f266 := Tryz.func260.trans (congrArg some (by kernel_rfl))
  f267 := Tryz.func258.trans (congrArg some (by kernel_rfl))
  f314 := Tryz.func286.trans (congrArg some (by kernel_rfl))
  t3 := Tryz.underlying3
  a3 := Tryz.isAgg3
  z3 := Tryz.sizeOf3
  v3 := Tryz.zeroValue3
  t4 := Tryz.underlying4
  a4 := Tryz.isAgg4
  z4 := Tryz.sizeOf4
  v4 := Tryz.zeroValue4
  t5 := Tryz.underlying5
  a5 := Tryz.isAgg5
  z5 := Tryz.sizeOf5
  v5 := Tryz.zeroValue5
  t9 := Tryz.underlying9
  a9 := Tryz.isAgg9
  z9 := Tryz.sizeOf9
  v9 := Tryz.zeroValue9
  t46 := Tryz.underlying175
  a46 := Tryz.isAgg175
  z46 := Tryz.sizeOf175
  v46 := Tryz.zeroValue175
  t51 := Tryz.underlying79
  a51 := Tryz.isAgg79
  z51 := Tryz.sizeOf79
  v51 := Tryz.zeroValue79
  t146 := Tryz.underlying296
  a146 := Tryz.isAgg296
  z146 := Tryz.sizeOf296
  v146 := Tryz.zeroValue296
  g1 := by kernel_rfl
  i3 := by kernel_rfl
  i4 := by kernel_rfl
  i5 := by kernel_rfl
  i9 := by kernel_rfl
  i46 := by kernel_rfl
  i51 := by kernel_rfl
  i146 := by kernel_rfl
  m1 := by kernel_rfl
  s1_3 := fun w h => Go.Proofs.cell_of_shapedOpen_int (zero := #[.int .i64 0]) (t := 3) h (of_decide_eq_true (by kernel_rfl)) (by kernel_rfl) rfl (by kernel_rfl) (by kernel_rfl) Tryz.underlying3 }
open Go.RowKit Go.Lib in
theorem Tryz.stringslite_Cut_shaped (s sep : ByteArray) (w : World) (h : w.ShapedOpen Tryz.prog) (hs : s.size < 4294967281) :
    Calls Tryz.prog 185 #[.string s, .string sep] w fun e w' => e = .returned (.tuple #[.string ⟨(Lib.cut s.data.toList sep.data.toList).1.toArray⟩, .string ⟨(Lib.cut s.data.toList sep.data.toList).2.1.toArray⟩, .bool (Lib.cut s.data.toList sep.data.toList).2.2]) ∧ ∃ n, w' = w.drewN n := Any.stringslite_Cut_shaped Tryz.laysM220 s sep w h hs
def Tryz.laysM145_ren : Go.Shelf.Ren := ⟨fun | 145 => 121 | 220 => 185 | 219 => 235 | 217 => 241 | 225 => 256 | 224 => 257 | 267 => 258 | 266 => 260 | 314 => 286 | n => n, fun | 9 => 9 | 4 => 4 | 59 => 173 | 3 => 3 | 5 => 5 | 46 => 175 | 146 => 296 | 51 => 79 | n => n, fun | 1 => 0 | n => n⟩
theorem Tryz.laysM145 : Go.Proofs.LaysM.n145 Tryz.prog Tryz.laysM145_ren := {
  mixed := by kernel_rfl
  f145 := Tryz.func121.trans (congrArg some (by kernel_rfl))
  f217 := Tryz.func241.trans (congrArg some (by kernel_rfl))
  f219 := Tryz.func235.trans (congrArg some (by kernel_rfl))
  f220 := Tryz.func185.trans (congrArg some (by kernel_rfl))
  f224 := Tryz.func257.trans (congrArg some (by kernel_rfl))
  f225 := Tryz.func256.trans (congrArg some (by kernel_rfl))
  f266 := Tryz.func260.trans (congrArg some (by kernel_rfl))
  f267 := Tryz.func258.trans (congrArg some (by kernel_rfl))
  f314 := Tryz.func286.trans (congrArg some (by kernel_rfl))
  t3 := Tryz.underlying3
  a3 := Tryz.isAgg3
  z3 := Tryz.sizeOf3
  v3 := Tryz.zeroValue3
  t4 := Tryz.underlying4
  a4 := Tryz.isAgg4
  z4 := Tryz.sizeOf4
  v4 := Tryz.zeroValue4
  t5 := Tryz.underlying5
  a5 := Tryz.isAgg5
  z5 := Tryz.sizeOf5
  v5 := Tryz.zeroValue5
  t9 := Tryz.underlying9
  a9 := Tryz.isAgg9
  z9 := Tryz.sizeOf9
  v9 := Tryz.zeroValue9
  t46 := Tryz.underlying175
  a46 := Tryz.isAgg175
  z46 := Tryz.sizeOf175
  v46 := Tryz.zeroValue175
  t51 := Tryz.underlying79
  a51 := Tryz.isAgg79
  z51 := Tryz.sizeOf79
  v51 := Tryz.zeroValue79
  t59 := Tryz.underlying173
  a59 := Tryz.isAgg173
  z59 := Tryz.sizeOf173
  v59 := Tryz.zeroValue173
  t146 := Tryz.underlying296
  a146 := Tryz.isAgg296
  z146 := Tryz.sizeOf296
  v146 := Tryz.zeroValue296
  g1 := by kernel_rfl
  i3 := by kernel_rfl
  i4 := by kernel_rfl
  i5 := by kernel_rfl
  i9 := by kernel_rfl
  i46 := by kernel_rfl
  i51 := by kernel_rfl
  i59 := by kernel_rfl
  i146 := by kernel_rfl
  m1 := by kernel_rfl
  s1_3 := fun w h => Go.Proofs.cell_of_shapedOpen_int (zero := #[.int .i64 0]) (t := 3) h (of_decide_eq_true (by kernel_rfl)) (by kernel_rfl) rfl (by kernel_rfl) (by kernel_rfl) Tryz.underlying3 }
open Go.RowKit Go.Lib in
theorem Tryz.strings_Cut_shaped (s sep : ByteArray) (w : World) (h : w.ShapedOpen Tryz.prog) (hs : s.size < 4294967281) :
    Calls Tryz.prog 121 #[.string s, .string sep] w fun e w' => e = .returned (.tuple #[.string ⟨(Lib.cut s.data.toList sep.data.toList).1.toArray⟩, .string ⟨(Lib.cut s.data.toList sep.data.toList).2.1.toArray⟩, .bool (Lib.cut s.data.toList sep.data.toList).2.2]) ∧ ∃ n, w' = w.drewN n := Any.strings_Cut_shaped Tryz.laysM145 s sep w h hs
def Tryz.laysM138_ren : Go.Shelf.Ren := ⟨fun | 138 => 181 | 195 => 236 | 218 => 237 | 143 => 180 | 219 => 235 | 217 => 241 | 225 => 256 | 224 => 257 | 267 => 258 | 266 => 260 | 314 => 286 | n => n, fun | 9 => 9 | 3 => 3 | 4 => 4 | 5 => 5 | 0 => 0 | 46 => 175 | 146 => 296 | 51 => 79 | n => n, fun | 1 => 0 | n => n⟩
theorem Tryz.laysM138 : Go.Proofs.LaysM.n138 Tryz.prog Tryz.laysM138_ren := {
  mixed := by kernel_rfl
  f138 := Tryz.func181.trans (congrArg some (by kernel_rfl))
  f143 := Tryz.func180.trans (congrArg some (by kernel_rfl))
  f195 := Tryz.func236.trans (congrArg some (by kernel_rfl))
  f217 := Tryz.func241.trans (congrArg some (by kernel_rfl))
  f218 := Tryz.func237.trans (congrArg some (by kernel_rfl))
  f219 := Tryz.func235.trans (congrArg some (by kernel_rfl))
  f224 := Tryz.func257.trans (congrArg some (by kernel_rfl))
  f225 := Tryz.func256.trans (congrArg some (by kernel_rfl))
  f266 := Tryz.func260.trans (congrArg some (by kernel_rfl))
  f267 := Tryz.func258.trans (congrArg some (by kernel_rfl))
  f314 := Tryz.func286.trans (congrArg some (by kernel_rfl))
  t0 := Tryz.underlying0
  a0 := Tryz.isAgg0
  z0 := Tryz.sizeOf0
  v0 := Tryz.zeroValue0
  t3 := Tryz.underlying3
  a3 := Tryz.isAgg3
  z3 := Tryz.sizeOf3
  v3 := Tryz.zeroValue3
  t4 := Tryz.underlying4
  a4 := Tryz.isAgg4
  z4 := Tryz.sizeOf4
  v4 := Tryz.zeroValue4
  t5 := Tryz.underlying5
  a5 := Tryz.isAgg5
  z5 := Tryz.sizeOf5
  v5 := Tryz.zeroValue5
  t9 := Tryz.underlying9
  a9 := Tryz.isAgg9
  z9 := Tryz.sizeOf9
  v9 := Tryz.zeroValue9
  t46 := Tryz.underlying175
  a46 := Tryz.isAgg175
  z46 := Tryz.sizeOf175
  v46 := Tryz.zeroValue175
  t51 := Tryz.underlying79
  a51 := Tryz.isAgg79
  z51 := Tryz.sizeOf79
  v51 := Tryz.zeroValue79
  t146 := Tryz.underlying296
  a146 := Tryz.isAgg296
  z146 := Tryz.sizeOf296
  v146 := Tryz.zeroValue296
  g1 := by kernel_rfl
  i0 := by kernel_rfl
  i3 := by kernel_rfl
  i4 := by kernel_rfl
  i5 := by kernel_rfl
  i9 := by kernel_rfl
  i46 := by kernel_rfl
  i51 := by kernel_rfl
  i146 := by kernel_rfl
  m1 := by kernel_rfl
  s1_3 := fun w h => Go.Proofs.cell_of_shapedOpen_int (zero := #[.int .i64 0]) (t := 3) h (of_decide_eq_true (by kernel_rfl)) (by kernel_rfl) rfl (by kernel_rfl) (by kernel_rfl) Tryz.underlying3 }
open Go.RowKit Go.Lib in
theorem Tryz.strings_Count_shaped (s sub : ByteArray) (w : World) (h : w.ShapedOpen Tryz.prog) (hs : s.size < 4294967281) (h2 : 2 ≤ sub.size) :
    Calls Tryz.prog 181 #[.string s, .string sub] w fun e w' => e = .returned (.int .i64 (Lib.countB s sub)) ∧ w' = w := Any.strings_Count_shaped Tryz.laysM138 s sub w h hs h2
def Tryz.lays189_ren : Go.Shelf.Ren := ⟨fun | 189 => 229 | 125 => 254 | 257 => 253 | 128 => 275 | 129 => 276 | 294 => 266 | 295 => 267 | 296 => 268 | 297 => 269 | 298 => 270 | 299 => 271 | 216 => 272 | 300 => 273 | 301 => 274 | 328 => 289 | 329 => 290 | 330 => 291 | 331 => 292 | 332 => 293 | 215 => 294 | 343 => 298 | n => n, fun | 28 => 95 | 3 => 3 | 46 => 175 | 0 => 0 | 51 => 79 | 53 => 80 | 4 => 4 | 183 => 282 | 182 => 281 | 131 => 116 | 5 => 5 | 9 => 9 | 218 => 298 | 222 => 220 | 228 => 305 | 229 => 237 | n => n, fun | n => n⟩
theorem Tryz.lays189 : Go.Proofs.Lays.n189 Tryz.prog Tryz.lays189_ren := {
  mixed := by kernel_rfl
  f125 := Tryz.func254.trans (congrArg some (by kernel_rfl))
  f128 := Tryz.func275.trans (congrArg some (by kernel_rfl))
  f129 := Tryz.func276.trans (congrArg some (by kernel_rfl))
  f189 := Tryz.func229.trans (congrArg some (by kernel_rfl))
  f215 := Tryz.func294.trans (congrArg some (by kernel_rfl))
  f216 := Tryz.func272.trans (congrArg some (by kernel_rfl))
  f257 := Tryz.func253.trans (congrArg some (by kernel_rfl))
  f294 := Tryz.func266.trans (congrArg some (by kernel_rfl))
  f295 := Tryz.func267.trans (congrArg some (by kernel_rfl))
  f296 := Tryz.func268.trans (congrArg some (by kernel_rfl))
  f297 := Tryz.func269.trans (congrArg some (by kernel_rfl))
  f298 := Tryz.func270.trans (congrArg some (by kernel_rfl))
  f299 := Tryz.func271.trans (congrArg some (by kernel_rfl))
  f300 := Tryz.func273.trans (congrArg some (by kernel_rfl))
  f301 := Tryz.func274.trans (congrArg some (by kernel_rfl))
  f328 := Tryz.func289.trans (congrArg some (by kernel_rfl))
  f329 := Tryz.func290.trans (congrArg some (by kernel_rfl))
  f330 := Tryz.func291.trans (congrArg some (by kernel_rfl))
  f331 := Tryz.func292.trans (congrArg some (by kernel_rfl))
  f332 := Tryz.func293.trans (congrArg some (by kernel_rfl))
  f343 := Tryz.func298.trans (congrArg some (by kernel_rfl))
  t0 := Tryz.underlying0
  a0 := Tryz.isAgg0
  z0 := Tryz.sizeOf0
  v0 := Tryz.zeroValue0
  t3 := Tryz.underlying3
  a3 := Tryz.isAgg3
  z3 := Tryz.sizeOf3
  v3 := Tryz.zeroValue3
  t4 := Tryz.underlying4
  a4 := Tryz.isAgg4
  z4 := Tryz.sizeOf4
  v4 := Tryz.zeroValue4
  t5 := Tryz.underlying5
  a5 := Tryz.isAgg5
  z5 := Tryz.sizeOf5
  v5 := Tryz.zeroValue5
  t9 := Tryz.underlying9
  a9 := Tryz.isAgg9
  z9 := Tryz.sizeOf9
  v9 := Tryz.zeroValue9
  t28 := Tryz.underlying95
  a28 := Tryz.isAgg95
  z28 := Tryz.sizeOf95
  v28 := Tryz.zeroValue95
  t46 := Tryz.underlying175
  a46 := Tryz.isAgg175
  z46 := Tryz.sizeOf175
  v46 := Tryz.zeroValue175
  t51 := Tryz.underlying79
  a51 := Tryz.isAgg79
  z51 := Tryz.sizeOf79
  v51 := Tryz.zeroValue79
  t53 := Tryz.underlying80
  a53 := Tryz.isAgg80
  z53 := Tryz.sizeOf80
  v53 := Tryz.zeroValue80
  t131 := Tryz.underlying116
  a131 := Tryz.isAgg116
  z131 := Tryz.sizeOf116
  v131 := Tryz.zeroValue116
  t182 := Tryz.underlying281
  a182 := Tryz.isAgg281
  z182 := Tryz.sizeOf281
  v182 := Tryz.zeroValue281
  t183 := Tryz.underlying282
  a183 := Tryz.isAgg282
  z183 := Tryz.sizeOf282
  v183 := Tryz.zeroValue282
  t218 := Tryz.underlying298
  a218 := Tryz.isAgg298
  z218 := Tryz.sizeOf298
  v218 := Tryz.zeroValue298
  t222 := Tryz.underlying220
  a222 := Tryz.isAgg220
  z222 := Tryz.sizeOf220
  v222 := Tryz.zeroValue220
  t228 := Tryz.underlying305
  a228 := Tryz.isAgg305
  z228 := Tryz.sizeOf305
  v228 := Tryz.zeroValue305
  t229 := Tryz.underlying237
  a229 := Tryz.isAgg237
  z229 := Tryz.sizeOf237
  v229 := Tryz.zeroValue237 }
open Go.Sort Go.RowKit in
theorem Tryz.slices_Sort_int (blk off cap : Nat) (zs : List Int) (w : World) (hH : Holds (Value.int .i64) w blk off zs.toArray) (hblk : blk < w.heap.size) (hsz : zs.length < 4611686018427387904) :
    Calls Tryz.prog 229 #[.slice (some ⟨blk, off, none⟩) zs.length cap] w fun e w' =>
      e = .returned (.tuple #[]) ∧ ∃ n os, w' = grow (putRow (Value.int .i64) (Sort.ahead w n) blk off (zs.mergeSort fun x y => decide (x ≤ y)).toArray) os := Any.slices_Sort_int Tryz.lays189 blk off cap zs w hH hblk hsz
open Go.RowKit Go.Lib in
/-- strings.Count at whatever sep that is not empty: the two roads under one statement. (LAID: no walk: one application.) -/
theorem Tryz.strings_Count_any (s sep : ByteArray) (m : Int) (w : World) (hs : s.size < 4294967281) (hm : w.cell? ⟨0, 0, none⟩ = some (.int .i64 m)) (h1 : 1 ≤ sep.size) :
    Calls Tryz.prog 181 #[.string s, .string sep] w fun e w' => e = .returned (.int .i64 (Lib.countB s sep)) ∧ w' = w := Any.strings_Count_any Tryz.lays138 s sep m w hs hm h1
def Tryz.lays221_ren : Go.Shelf.Ren := ⟨fun | 221 => 186 | 268 => 240 | 138 => 181 | 143 => 180 | 195 => 236 | 197 => 183 | 218 => 237 | 219 => 235 | 260 => 239 | 217 => 241 | 225 => 256 | 224 => 257 | 267 => 258 | 266 => 260 | 314 => 286 | n => n, fun | 9 => 9 | 3 => 3 | 31 => 176 | 4 => 4 | 0 => 0 | 105 => 231 | 21 => 21 | 5 => 5 | 46 => 175 | 119 => 271 | 139 => 274 | 138 => 273 | 146 => 296 | 51 => 79 | n => n, fun | 1 => 0 | 3 => 1 | 4 => 2 | n => n⟩
theorem Tryz.lays221 : Go.Proofs.Lays.n221 Tryz.prog Tryz.lays221_ren := {
  mixed := by kernel_rfl
  f138 := Tryz.func181.trans (congrArg some (by kernel_rfl))
  f143 := Tryz.func180.trans (congrArg some (by kernel_rfl))
  f195 := Tryz.func236.trans (congrArg some (by kernel_rfl))
  f197 := Tryz.func183.trans (congrArg some (by kernel_rfl))
  f217 := Tryz.func241.trans (congrArg some (by kernel_rfl))
  f218 := Tryz.func237.trans (congrArg some (by kernel_rfl))
  f219 := Tryz.func235.trans (congrArg some (by kernel_rfl))
  f221 := Tryz.func186.trans (congrArg some (by kernel_rfl))
  f224 := Tryz.func257.trans (congrArg some (by kernel_rfl))
  f225 := Tryz.func256.trans (congrArg some (by kernel_rfl))
  f260 := Tryz.func239.trans (congrArg some (by kernel_rfl))
  f266 := Tryz.func260.trans (congrArg some (by kernel_rfl))
  f267 := Tryz.func258.trans (congrArg some (by kernel_rfl))
  f268 := Tryz.func240.trans (congrArg some (by kernel_rfl))
  f314 := Tryz.func286.trans (congrArg some (by kernel_rfl))
  t0 := Tryz.underlying0
  a0 := Tryz.isAgg0
  z0 := Tryz.sizeOf0
  v0 := Tryz.zeroValue0
  t3 := Tryz.underlying3
  a3 := Tryz.isAgg3
  z3 := Tryz.sizeOf3
  v3 := Tryz.zeroValue3
  t4 := Tryz.underlying4
  a4 := Tryz.isAgg4
  z4 := Tryz.sizeOf4
  v4 := Tryz.zeroValue4
  t5 := Tryz.underlying5
  a5 := Tryz.isAgg5
  z5 := Tryz.sizeOf5
  v5 := Tryz.zeroValue5
  t9 := Tryz.underlying9
  a9 := Tryz.isAgg9
  z9 := Tryz.sizeOf9
  v9 := Tryz.zeroValue9
  t21 := Tryz.underlying21
  a21 := Tryz.isAgg21
  z21 := Tryz.sizeOf21
  v21 := Tryz.zeroValue21
  t31 := Tryz.underlying176
  a31 := Tryz.isAgg176
  z31 := Tryz.sizeOf176
  v31 := Tryz.zeroValue176
  t46 := Tryz.underlying175
  a46 := Tryz.isAgg175
  z46 := Tryz.sizeOf175
  v46 := Tryz.zeroValue175
  t51 := Tryz.underlying79
  a51 := Tryz.isAgg79
  z51 := Tryz.sizeOf79
  v51 := Tryz.zeroValue79
  t105 := Tryz.underlying231
  a105 := Tryz.isAgg231
  z105 := Tryz.sizeOf231
  v105 := Tryz.zeroValue231
  t119 := Tryz.underlying271
  a119 := Tryz.isAgg271
  z119 := Tryz.sizeOf271
  t138 := Tryz.underlying273
  a138 := Tryz.isAgg273
  z138 := Tryz.sizeOf273
  v138 := Tryz.zeroValue273
  t139 := Tryz.underlying274
  a139 := Tryz.isAgg274
  z139 := Tryz.sizeOf274
  v139 := Tryz.zeroValue274
  t146 := Tryz.underlying296
  a146 := Tryz.isAgg296
  z146 := Tryz.sizeOf296
  v146 := Tryz.zeroValue296
  g1 := by kernel_rfl
  g3 := by kernel_rfl
  g4 := by kernel_rfl }
open Go.RowKit Go.Lib in
theorem Tryz.strings_genSplit (s sep : ByteArray) (sv : Nat) (n : Int) (N : Nat) (m : Int) (w : World) (hs : s.size < 4294967281) (hm : w.cell? ⟨0, 0, none⟩ = some (.int .i64 m)) (h1 : 1 ≤ sep.size) (hsv : sv ≤ sep.size) (hn0 : n ≠ 0) (hn63 : n ≤ 9223372036854775807) (hN : (N : Int) = min (if n < 0 then (Lib.countB s sep : Int) + 1 else n) ((s.size : Int) + 1)) :
    Calls Tryz.prog 186 #[.string s, .string sep, .int .i64 sv, .int .i64 n] w fun e w' =>
      e = .returned (.slice (some ⟨w.heap.size, 0, none⟩) (Lib.splitB sep sv (N - 1) s).length N) ∧ w' = w.alloc (.cells (Lib.cellsOf (Lib.splitB sep sv (N - 1) s) N) 9) := Any.strings_genSplit Tryz.lays221 (by kernel_rfl) s sep sv n N m w hs hm h1 hsv hn0 hn63 hN
def Tryz.lays146_ren : Go.Shelf.Ren := ⟨fun | 146 => 122 | 221 => 186 | 268 => 240 | 138 => 181 | 143 => 180 | 195 => 236 | 197 => 183 | 218 => 237 | 219 => 235 | 260 => 239 | 217 => 241 | 225 => 256 | 224 => 257 | 267 => 258 | 266 => 260 | 314 => 286 | n => n, fun | 9 => 9 | 31 => 176 | 3 => 3 | 4 => 4 | 0 => 0 | 105 => 231 | 21 => 21 | 5 => 5 | 46 => 175 | 119 => 271 | 139 => 274 | 138 => 273 | 146 => 296 | 51 => 79 | n => n, fun | 1 => 0 | 3 => 1 | 4 => 2 | n => n⟩
theorem Tryz.lays146 : Go.Proofs.Lays.n146 Tryz.prog Tryz.lays146_ren := {
  mixed := by kernel_rfl
  f138 := Tryz.func181.trans (congrArg some (by kernel_rfl))
  f143 := Tryz.func180.trans (congrArg some (by kernel_rfl))
  f146 := Tryz.func122.trans (congrArg some (by kernel_rfl))
  f195 := Tryz.func236.trans (congrArg some (by kernel_rfl))
  f197 := Tryz.func183.trans (congrArg some (by kernel_rfl))
  f217 := Tryz.func241.trans (congrArg some (by kernel_rfl))
  f218 := Tryz.func237.trans (congrArg some (by kernel_rfl))
  f219 := Tryz.func235.trans (congrArg some (by kernel_rfl))
  f221 := Tryz.func186.trans (congrArg some (by kernel_rfl))
  f224 := Tryz.func257.trans (congrArg some (by kernel_rfl))
  f225 := Tryz.func256.trans (congrArg some (by kernel_rfl))
  f260 := Tryz.func239.trans (congrArg some (by kernel_rfl))
  f266 := Tryz.func260.trans (congrArg some (by kernel_rfl))
  f267 := Tryz.func258.trans (congrArg some (by kernel_rfl))
  f268 := Tryz.func240.trans (congrArg some (by kernel_rfl))
  f314 := Tryz.func286.trans (congrArg some (by kernel_rfl))
  t0 := Tryz.underlying0
  a0 := Tryz.isAgg0
  z0 := Tryz.sizeOf0
  v0 := Tryz.zeroValue0
  t3 := Tryz.underlying3
  a3 := Tryz.isAgg3
  z3 := Tryz.sizeOf3
  v3 := Tryz.zeroValue3
  t4 := Tryz.underlying4
  a4 := Tryz.isAgg4
  z4 := Tryz.sizeOf4
  v4 := Tryz.zeroValue4
  t5 := Tryz.underlying5
  a5 := Tryz.isAgg5
  z5 := Tryz.sizeOf5
  v5 := Tryz.zeroValue5
  t9 := Tryz.underlying9
  a9 := Tryz.isAgg9
  z9 := Tryz.sizeOf9
  v9 := Tryz.zeroValue9
  t21 := Tryz.underlying21
  a21 := Tryz.isAgg21
  z21 := Tryz.sizeOf21
  v21 := Tryz.zeroValue21
  t31 := Tryz.underlying176
  a31 := Tryz.isAgg176
  z31 := Tryz.sizeOf176
  v31 := Tryz.zeroValue176
  t46 := Tryz.underlying175
  a46 := Tryz.isAgg175
  z46 := Tryz.sizeOf175
  v46 := Tryz.zeroValue175
  t51 := Tryz.underlying79
  a51 := Tryz.isAgg79
  z51 := Tryz.sizeOf79
  v51 := Tryz.zeroValue79
  t105 := Tryz.underlying231
  a105 := Tryz.isAgg231
  z105 := Tryz.sizeOf231
  v105 := Tryz.zeroValue231
  t119 := Tryz.underlying271
  a119 := Tryz.isAgg271
  z119 := Tryz.sizeOf271
  t138 := Tryz.underlying273
  a138 := Tryz.isAgg273
  z138 := Tryz.sizeOf273
  v138 := Tryz.zeroValue273
  t139 := Tryz.underlying274
  a139 := Tryz.isAgg274
  z139 := Tryz.sizeOf274
  v139 := Tryz.zeroValue274
  t146 := Tryz.underlying296
  a146 := Tryz.isAgg296
  z146 := Tryz.sizeOf296
  v146 := Tryz.zeroValue296
  g1 := by kernel_rfl
  g3 := by kernel_rfl
  g4 := by kernel_rfl }
open Go.RowKit Go.Lib in
/-- strings.Split. (LAID: no walk: one application.) -/
theorem Tryz.strings_Split (s sep : ByteArray) (m : Int) (w : World) (hs : s.size < 4294967281) (hm : w.cell? ⟨0, 0, none⟩ = some (.int .i64 m)) (h1 : 1 ≤ sep.size) :
    Calls Tryz.prog 122 #[.string s, .string sep] w fun e w' =>
      e = .returned (.slice (some ⟨w.heap.size, 0, none⟩) (Lib.countB s sep + 1) (Lib.countB s sep + 1)) ∧ w' = w.alloc (.cells ((Lib.splitB sep 0 (Lib.countB s sep) s).map Value.string).toArray 9) := Any.strings_Split Tryz.lays146 (by kernel_rfl) s sep m w hs hm h1
def Tryz.lays154_ren : Go.Shelf.Ren := ⟨fun | 154 => 119 | 138 => 181 | 165 => 182 | 143 => 180 | 166 => 101 | 197 => 183 | 169 => 102 | 195 => 236 | 218 => 237 | 240 => 171 | 241 => 238 | 219 => 235 | 260 => 239 | 276 => 231 | 277 => 259 | 217 => 241 | 225 => 256 | 224 => 257 | 267 => 258 | 266 => 260 | 314 => 286 | n => n, fun | 9 => 9 | 3 => 3 | 4 => 4 | 72 => 147 | 0 => 0 | 76 => 151 | 105 => 231 | 21 => 21 | 5 => 5 | 70 => 145 | 20 => 20 | 37 => 84 | 75 => 150 | 127 => 217 | 164 => 257 | 46 => 175 | 119 => 271 | 139 => 274 | 138 => 273 | 146 => 296 | 51 => 79 | 80 => 153 | n => n, fun | 1 => 0 | 3 => 1 | 4 => 2 | n => n⟩
theorem Tryz.lays154 : Go.Proofs.Lays.n154 Tryz.prog Tryz.lays154_ren := {
  mixed := by kernel_rfl
  f138 := Tryz.func181.trans (congrArg some (by kernel_rfl))
  f143 := Tryz.func180.trans (congrArg some (by kernel_rfl))
  f154 := Tryz.func119.trans (congrArg some (by kernel_rfl))
  f165 := Tryz.func182.trans (congrArg some (by kernel_rfl))
  f166 := Tryz.func101.trans (congrArg some (by kernel_rfl))
  f169 := Tryz.func102.trans (congrArg some (by kernel_rfl))
  f195 := Tryz.func236.trans (congrArg some (by kernel_rfl))
  f197 := Tryz.func183.trans (congrArg some (by kernel_rfl))
  f217 := Tryz.func241.trans (congrArg some (by kernel_rfl))
  f218 := Tryz.func237.trans (congrArg some (by kernel_rfl))
  f219 := Tryz.func235.trans (congrArg some (by kernel_rfl))
  f224 := Tryz.func257.trans (congrArg some (by kernel_rfl))
  f225 := Tryz.func256.trans (congrArg some (by kernel_rfl))
  f240 := Tryz.func171.trans (congrArg some (by kernel_rfl))
  f241 := Tryz.func238.trans (congrArg some (by kernel_rfl))
  f260 := Tryz.func239.trans (congrArg some (by kernel_rfl))
  f266 := Tryz.func260.trans (congrArg some (by kernel_rfl))
  f267 := Tryz.func258.trans (congrArg some (by kernel_rfl))
  f276 := Tryz.func231.trans (congrArg some (by kernel_rfl))
  f277 := Tryz.func259.trans (congrArg some (by kernel_rfl))
  f314 := Tryz.func286.trans (congrArg some (by kernel_rfl))
  t0 := Tryz.underlying0
  a0 := Tryz.isAgg0
  z0 := Tryz.sizeOf0
  v0 := Tryz.zeroValue0
  t3 := Tryz.underlying3
  a3 := Tryz.isAgg3
  z3 := Tryz.sizeOf3
  v3 := Tryz.zeroValue3
  t4 := Tryz.underlying4
  a4 := Tryz.isAgg4
  z4 := Tryz.sizeOf4
  v4 := Tryz.zeroValue4
  t5 := Tryz.underlying5
  a5 := Tryz.isAgg5
  z5 := Tryz.sizeOf5
  v5 := Tryz.zeroValue5
  t9 := Tryz.underlying9
  a9 := Tryz.isAgg9
  z9 := Tryz.sizeOf9
  v9 := Tryz.zeroValue9
  t20 := Tryz.underlying20
  a20 := Tryz.isAgg20
  z20 := Tryz.sizeOf20
  v20 := Tryz.zeroValue20
  t21 := Tryz.underlying21
  a21 := Tryz.isAgg21
  z21 := Tryz.sizeOf21
  v21 := Tryz.zeroValue21
  t37 := Tryz.underlying84
  a37 := Tryz.isAgg84
  z37 := Tryz.sizeOf84
  v37 := Tryz.zeroValue84
  t46 := Tryz.underlying175
  a46 := Tryz.isAgg175
  z46 := Tryz.sizeOf175
  v46 := Tryz.zeroValue175
  t51 := Tryz.underlying79
  a51 := Tryz.isAgg79
  z51 := Tryz.sizeOf79
  v51 := Tryz.zeroValue79
  t70 := Tryz.underlying145
  a70 := Tryz.isAgg145
  z70 := Tryz.sizeOf145
  v70 := Tryz.zeroValue145
  t72 := Tryz.underlying147
  a72 := Tryz.isAgg147
  z72 := Tryz.sizeOf147
  v72 := Tryz.zeroValue147
  t75 := Tryz.underlying150
  a75 := Tryz.isAgg150
  z75 := Tryz.sizeOf150
  v75 := Tryz.zeroValue150
  t76 := Tryz.underlying151
  a76 := Tryz.isAgg151
  z76 := Tryz.sizeOf151
  v76 := Tryz.zeroValue151
  t105 := Tryz.underlying231
  a105 := Tryz.isAgg231
  z105 := Tryz.sizeOf231
  v105 := Tryz.zeroValue231
  t119 := Tryz.underlying271
  a119 := Tryz.isAgg271
  z119 := Tryz.sizeOf271
  t127 := Tryz.underlying217
  a127 := Tryz.isAgg217
  z127 := Tryz.sizeOf217
  v127 := Tryz.zeroValue217
  t138 := Tryz.underlying273
  a138 := Tryz.isAgg273
  z138 := Tryz.sizeOf273
  v138 := Tryz.zeroValue273
  t139 := Tryz.underlying274
  a139 := Tryz.isAgg274
  z139 := Tryz.sizeOf274
  v139 := Tryz.zeroValue274
  t146 := Tryz.underlying296
  a146 := Tryz.isAgg296
  z146 := Tryz.sizeOf296
  v146 := Tryz.zeroValue296
  t164 := Tryz.underlying257
  a164 := Tryz.isAgg257
  z164 := Tryz.sizeOf257
  v164 := Tryz.zeroValue257
  g1 := by kernel_rfl
  g3 := by kernel_rfl
  g4 := by kernel_rfl }
theorem Tryz.Builder_Extra_154 : Builder.Extra Tryz.prog Tryz.lays154_ren := {
  sizeBuilder := by kernel_rfl
  liesBuilder := by kernel_rfl
  t5 := Tryz.underlying5
  a5 := Tryz.isAgg5
  z5 := Tryz.sizeOf5
  v5 := Tryz.zeroValue5
  infoByte := by kernel_rfl
  cellsByte := by kernel_rfl
  sizeByte := by kernel_rfl
  neB5 := by decide }
open Go.RowKit Go.Lib in
/-- WHERE SOMETHING IS REPLACED: old is not new, n is not 0, there is an instance. (LAID: no walk: one application.) -/
theorem Tryz.strings_Replace_some (s old new : ByteArray) (n : Int) (m : Int) (w : World) (hs : s.size < 4294967281) (hm : w.cell? ⟨0, 0, none⟩ = some (.int .i64 m)) (h1 : 1 ≤ old.size) (hne : old ≠ new) (hn0 : n ≠ 0) (hc0 : Lib.countB s old ≠ 0) (hlen : s.size + Lib.countB s old * new.size ≤ 140737488355328) :
    Calls Tryz.prog 119 #[.string s, .string old, .string new, .int .i64 n] w fun e w' =>
      e = .returned (.string ⟨(Lib.replaceK old.data.toList new.data.toList (Lib.replaceNum s.data.toList old.data.toList n) s.data.toList).toArray⟩) ∧ Below w.heap.size w w' := Any.strings_Replace_some Tryz.lays154 Tryz.Builder_Extra_154 s old new n m w hs hm h1 hne hn0 hc0 hlen
open Go.RowKit Go.Lib in
/-- 'if old == new || n == 0 { return s }'. (LAID: no walk: one application.) -/
theorem Tryz.strings_Replace_none (s old new : ByteArray) (n : Int) (w : World) (h : old = new ∨ n = 0) :
    Calls Tryz.prog 119 #[.string s, .string old, .string new, .int .i64 n] w fun e w' => e = .returned (.string s) ∧ w' = w := Any.strings_Replace_none Tryz.lays154 s old new n w h
open Go.RowKit Go.Lib in
/-- 'if m := Count(s, old); m == 0 { return s }'. (LAID: no walk: one application.) -/
theorem Tryz.strings_Replace_absent (s old new : ByteArray) (n : Int) (m : Int) (w : World) (hs : s.size < 4294967281) (hm : w.cell? ⟨0, 0, none⟩ = some (.int .i64 m)) (h1 : 1 ≤ old.size) (hne : old ≠ new) (hn0 : n ≠ 0) (hc0 : Lib.countB s old = 0) :
    Calls Tryz.prog 119 #[.string s, .string old, .string new, .int .i64 n] w fun e w' => e = .returned (.string s) ∧ w' = w := Any.strings_Replace_absent Tryz.lays154 s old new n m w hs hm h1 hne hn0 hc0
open Go.RowKit Go.Lib in
/-- strings.Replace: "Replace returns a copy of the string s with the first n non-overlapping instances of old replaced by new. .. If n < 0, there is no limit on the number of replacements.": AT AN old THAT IS NOT EMPTY: IT RETURNS 'Lib.replace s old new n'. Below the heap's end the world is as it was. IT ASKS, as strings.Index's contract: 'len(s) < 4294967281', 'hm'; and that what comes out has room: 'len(s) + Count(s, old) * len(new) ≤ 2^47'. (LAID: no walk: one application.) -/
theorem Tryz.strings_Replace (s old new : ByteArray) (n : Int) (m : Int) (w : World) (hs : s.size < 4294967281) (hm : w.cell? ⟨0, 0, none⟩ = some (.int .i64 m)) (h1 : 1 ≤ old.size) (hlen : s.size + Lib.countB s old * new.size ≤ 140737488355328) :
    Calls Tryz.prog 119 #[.string s, .string old, .string new, .int .i64 n] w fun e w' =>
      e = .returned (.string ⟨(Lib.replace s.data.toList old.data.toList new.data.toList n).toArray⟩) ∧ Below w.heap.size w w' := Any.strings_Replace Tryz.lays154 Tryz.Builder_Extra_154 s old new n m w hs hm h1 hlen
def Tryz.laysM146_ren : Go.Shelf.Ren := ⟨fun | 146 => 122 | 221 => 186 | 268 => 240 | 138 => 181 | 143 => 180 | 195 => 236 | 197 => 183 | 218 => 237 | 219 => 235 | 260 => 239 | 217 => 241 | 225 => 256 | 224 => 257 | 267 => 258 | 266 => 260 | 314 => 286 | n => n, fun | 9 => 9 | 31 => 176 | 3 => 3 | 4 => 4 | 0 => 0 | 105 => 231 | 21 => 21 | 5 => 5 | 46 => 175 | 119 => 271 | 139 => 274 | 138 => 273 | 146 => 296 | 51 => 79 | n => n, fun | 1 => 0 | 3 => 1 | 4 => 2 | n => n⟩
theorem Tryz.laysM146 : Go.Proofs.LaysM.n146 Tryz.prog Tryz.laysM146_ren := {
  mixed := by kernel_rfl
  f138 := Tryz.func181.trans (congrArg some (by kernel_rfl))
  f143 := Tryz.func180.trans (congrArg some (by kernel_rfl))
  f146 := Tryz.func122.trans (congrArg some (by kernel_rfl))
  f195 := Tryz.func236.trans (congrArg some (by kernel_rfl))
  f197 := Tryz.func183.trans (congrArg some (by kernel_rfl))
  f217 := Tryz.func241.trans (congrArg some (by kernel_rfl))
  f218 := Tryz.func237.trans (congrArg some (by kernel_rfl))
  f219 := Tryz.func235.trans (congrArg some (by kernel_rfl))
  f221 := Tryz.func186.trans (congrArg some (by kernel_rfl))
  f224 := Tryz.func257.trans (congrArg some (by kernel_rfl))
  f225 := Tryz.func256.trans (congrArg some (by kernel_rfl))
  f260 := Tryz.func239.trans (congrArg some (by kernel_rfl))
  f266 := Tryz.func260.trans (congrArg some (by kernel_rfl))
  f267 := Tryz.func258.trans (congrArg some (by kernel_rfl))
  f268 := Tryz.func240.trans (congrArg some (by kernel_rfl))
  f314 := Tryz.func286.trans (congrArg some (by kernel_rfl))
  t0 := Tryz.underlying0
  a0 := Tryz.isAgg0
  z0 := Tryz.sizeOf0
  v0 := Tryz.zeroValue0
  t3 := Tryz.underlying3
  a3 := Tryz.isAgg3
  z3 := Tryz.sizeOf3
  v3 := Tryz.zeroValue3
  t4 := Tryz.underlying4
  a4 := Tryz.isAgg4
  z4 := Tryz.sizeOf4
  v4 := Tryz.zeroValue4
  t5 := Tryz.underlying5
  a5 := Tryz.isAgg5
  z5 := Tryz.sizeOf5
  v5 := Tryz.zeroValue5
  t9 := Tryz.underlying9
  a9 := Tryz.isAgg9
  z9 := Tryz.sizeOf9
  v9 := Tryz.zeroValue9
  t21 := Tryz.underlying21
  a21 := Tryz.isAgg21
  z21 := Tryz.sizeOf21
  v21 := Tryz.zeroValue21
  t31 := Tryz.underlying176
  a31 := Tryz.isAgg176
  z31 := Tryz.sizeOf176
  v31 := Tryz.zeroValue176
  t46 := Tryz.underlying175
  a46 := Tryz.isAgg175
  z46 := Tryz.sizeOf175
  v46 := Tryz.zeroValue175
  t51 := Tryz.underlying79
  a51 := Tryz.isAgg79
  z51 := Tryz.sizeOf79
  v51 := Tryz.zeroValue79
  t105 := Tryz.underlying231
  a105 := Tryz.isAgg231
  z105 := Tryz.sizeOf231
  v105 := Tryz.zeroValue231
  t119 := Tryz.underlying271
  a119 := Tryz.isAgg271
  z119 := Tryz.sizeOf271
  t138 := Tryz.underlying273
  a138 := Tryz.isAgg273
  z138 := Tryz.sizeOf273
  v138 := Tryz.zeroValue273
  t139 := Tryz.underlying274
  a139 := Tryz.isAgg274
  z139 := Tryz.sizeOf274
  v139 := Tryz.zeroValue274
  t146 := Tryz.underlying296
  a146 := Tryz.isAgg296
  z146 := Tryz.sizeOf296
  v146 := Tryz.zeroValue296
  g1 := by kernel_rfl
  g3 := by kernel_rfl
  g4 := by kernel_rfl
  i0 := by kernel_rfl
  i3 := by kernel_rfl
  i4 := by kernel_rfl
  i5 := by kernel_rfl
  i9 := by kernel_rfl
  i21 := by kernel_rfl
  i31 := by kernel_rfl
  i46 := by kernel_rfl
  i51 := by kernel_rfl
  i105 := by kernel_rfl
  i138 := by kernel_rfl
  i139 := by kernel_rfl
  i146 := by kernel_rfl
  m1 := by kernel_rfl
  s1_3 := fun w h => Go.Proofs.cell_of_shapedOpen_int (zero := #[.int .i64 0]) (t := 3) h (of_decide_eq_true (by kernel_rfl)) (by kernel_rfl) rfl (by kernel_rfl) (by kernel_rfl) Tryz.underlying3
  m3 := by kernel_rfl
  m4 := by kernel_rfl }
open Go.RowKit Go.Lib in
/-- strings.Split, sep not empty. (LAID: no walk: one application.) -/
theorem Tryz.strings_Split_shaped (s sep : ByteArray) (w : World) (h : w.ShapedOpen Tryz.prog) (hs : s.size < 4294967281) (h1 : 1 ≤ sep.size) :
    Calls Tryz.prog 122 #[.string s, .string sep] w fun e w' =>
      e = .returned (.slice (some ⟨w.heap.size, 0, none⟩) (Lib.countB s sep + 1) (Lib.countB s sep + 1)) ∧ w' = w.alloc (.cells ((Lib.splitB sep 0 (Lib.countB s sep) s).map Value.string).toArray 9) := Any.strings_Split_shaped Tryz.laysM146 s sep w h hs h1
def Tryz.laysM154_ren : Go.Shelf.Ren := ⟨fun | 154 => 119 | 138 => 181 | 165 => 182 | 143 => 180 | 166 => 101 | 197 => 183 | 169 => 102 | 195 => 236 | 218 => 237 | 240 => 171 | 241 => 238 | 219 => 235 | 260 => 239 | 276 => 231 | 277 => 259 | 217 => 241 | 225 => 256 | 224 => 257 | 267 => 258 | 266 => 260 | 314 => 286 | n => n, fun | 9 => 9 | 3 => 3 | 4 => 4 | 72 => 147 | 0 => 0 | 76 => 151 | 105 => 231 | 21 => 21 | 5 => 5 | 70 => 145 | 20 => 20 | 37 => 84 | 75 => 150 | 127 => 217 | 164 => 257 | 46 => 175 | 119 => 271 | 139 => 274 | 138 => 273 | 146 => 296 | 51 => 79 | 80 => 153 | n => n, fun | 1 => 0 | 3 => 1 | 4 => 2 | n => n⟩
theorem Tryz.laysM154 : Go.Proofs.LaysM.n154 Tryz.prog Tryz.laysM154_ren := {
  mixed := by kernel_rfl
  f138 := Tryz.func181.trans (congrArg some (by kernel_rfl))
  f143 := Tryz.func180.trans (congrArg some (by kernel_rfl))
  f154 := Tryz.func119.trans (congrArg some (by kernel_rfl))
  f165 := Tryz.func182.trans (congrArg some (by kernel_rfl))
  f166 := Tryz.func101.trans (congrArg some (by kernel_rfl))
  f169 := Tryz.func102.trans (congrArg some (by kernel_rfl))
  f195 := Tryz.func236.trans (congrArg some (by kernel_rfl))
  f197 := Tryz.func183.trans (congrArg some (by kernel_rfl))
  f217 := Tryz.func241.trans (congrArg some (by kernel_rfl))
  f218 := Tryz.func237.trans (congrArg some (by kernel_rfl))
  f219 := Tryz.func235.trans (congrArg some (by kernel_rfl))
  f224 := Tryz.func257.trans (congrArg some (by kernel_rfl))
  f225 := Tryz.func256.trans (congrArg some (by kernel_rfl))
  f240 := Tryz.func171.trans (congrArg some (by kernel_rfl))
  f241 := Tryz.func238.trans (congrArg some (by kernel_rfl))
  f260 := Tryz.func239.trans (congrArg some (by kernel_rfl))
  f266 := Tryz.func260.trans (congrArg some (by kernel_rfl))
  f267 := Tryz.func258.trans (congrArg some (by kernel_rfl))
  f276 := Tryz.func231.trans (congrArg some (by kernel_rfl))
  f277 := Tryz.func259.trans (congrArg some (by kernel_rfl))
  f314 := Tryz.func286.trans (congrArg some (by kernel_rfl))
  t0 := Tryz.underlying0
  a0 := Tryz.isAgg0
  z0 := Tryz.sizeOf0
  v0 := Tryz.zeroValue0
  t3 := Tryz.underlying3
  a3 := Tryz.isAgg3
  z3 := Tryz.sizeOf3
  v3 := Tryz.zeroValue3
  t4 := Tryz.underlying4
  a4 := Tryz.isAgg4
  z4 := Tryz.sizeOf4
  v4 := Tryz.zeroValue4
  t5 := Tryz.underlying5
  a5 := Tryz.isAgg5
  z5 := Tryz.sizeOf5
  v5 := Tryz.zeroValue5
  t9 := Tryz.underlying9
  a9 := Tryz.isAgg9
  z9 := Tryz.sizeOf9
  v9 := Tryz.zeroValue9
  t20 := Tryz.underlying20
  a20 := Tryz.isAgg20
  z20 := Tryz.sizeOf20
  v20 := Tryz.zeroValue20
  t21 := Tryz.underlying21
  a21 := Tryz.isAgg21
  z21 := Tryz.sizeOf21
  v21 := Tryz.zeroValue21
  t37 := Tryz.underlying84
  a37 := Tryz.isAgg84
  z37 := Tryz.sizeOf84
  v37 := Tryz.zeroValue84
  t46 := Tryz.underlying175
  a46 := Tryz.isAgg175
  z46 := Tryz.sizeOf175
  v46 := Tryz.zeroValue175
  t51 := Tryz.underlying79
  a51 := Tryz.isAgg79
  z51 := Tryz.sizeOf79
  v51 := Tryz.zeroValue79
  t70 := Tryz.underlying145
  a70 := Tryz.isAgg145
  z70 := Tryz.sizeOf145
  v70 := Tryz.zeroValue145
  t72 := Tryz.underlying147
  a72 := Tryz.isAgg147
  z72 := Tryz.sizeOf147
  v72 := Tryz.zeroValue147
  t75 := Tryz.underlying150
  a75 := Tryz.isAgg150
  z75 := Tryz.sizeOf150
  v75 := Tryz.zeroValue150
  t76 := Tryz.underlying151
  a76 := Tryz.isAgg151
  z76 := Tryz.sizeOf151
  v76 := Tryz.zeroValue151
  t105 := Tryz.underlying231
  a105 := Tryz.isAgg231
  z105 := Tryz.sizeOf231
  v105 := Tryz.zeroValue231
  t119 := Tryz.underlying271
  a119 := Tryz.isAgg271
  z119 := Tryz.sizeOf271
  t127 := Tryz.underlying217
  a127 := Tryz.isAgg217
  z127 := Tryz.sizeOf217
  v127 := Tryz.zeroValue217
  t138 := Tryz.underlying273
  a138 := Tryz.isAgg273
  z138 := Tryz.sizeOf273
  v138 := Tryz.zeroValue273
  t139 := Tryz.underlying274
  a139 := Tryz.isAgg274
  z139 := Tryz.sizeOf274
  v139 := Tryz.zeroValue274
  t146 := Tryz.underlying296
  a146 := Tryz.isAgg296
  z146 := Tryz.sizeOf296
  v146 := Tryz.zeroValue296
  t164 := Tryz.underlying257
  a164 := Tryz.isAgg257
  z164 := Tryz.sizeOf257
  v164 := Tryz.zeroValue257
  g1 := by kernel_rfl
  g3 := by kernel_rfl
  g4 := by kernel_rfl
  t80 := Tryz.underlying153
  a80 := Tryz.isAgg153
  z80 := Tryz.sizeOf153
  v80 := Tryz.zeroValue153
  i0 := by kernel_rfl
  i3 := by kernel_rfl
  i4 := by kernel_rfl
  i5 := by kernel_rfl
  i9 := by kernel_rfl
  i20 := by kernel_rfl
  i21 := by kernel_rfl
  i37 := by kernel_rfl
  i46 := by kernel_rfl
  i51 := by kernel_rfl
  i70 := by kernel_rfl
  i72 := by kernel_rfl
  i75 := by kernel_rfl
  i76 := by kernel_rfl
  i80 := by kernel_rfl
  i105 := by kernel_rfl
  i127 := by kernel_rfl
  i138 := by kernel_rfl
  i139 := by kernel_rfl
  i146 := by kernel_rfl
  i164 := by kernel_rfl
  m1 := by kernel_rfl
  s1_3 := fun w h => Go.Proofs.cell_of_shapedOpen_int (zero := #[.int .i64 0]) (t := 3) h (of_decide_eq_true (by kernel_rfl)) (by kernel_rfl) rfl (by kernel_rfl) (by kernel_rfl) Tryz.underlying3
  m3 := by kernel_rfl
  m4 := by kernel_rfl }
theorem Tryz.Builder_Extra_M154 : Builder.Extra Tryz.prog Tryz.laysM154_ren := {
  sizeBuilder := by kernel_rfl
  liesBuilder := by kernel_rfl
  t5 := Tryz.underlying5
  a5 := Tryz.isAgg5
  z5 := Tryz.sizeOf5
  v5 := Tryz.zeroValue5
  infoByte := by kernel_rfl
  cellsByte := by kernel_rfl
  sizeByte := by kernel_rfl
  neB5 := by decide }
open Go.RowKit Go.Lib in
/-- strings.Replace, old not empty. (LAID: no walk: one application.) -/
theorem Tryz.strings_Replace_shaped (s old new : ByteArray) (n : Int) (w : World) (h : w.ShapedOpen Tryz.prog) (hs : s.size < 4294967281) (h1 : 1 ≤ old.size) (hlen : s.size + Lib.countB s old * new.size ≤ 140737488355328) :
    Calls Tryz.prog 119 #[.string s, .string old, .string new, .int .i64 n] w fun e w' =>
      e = .returned (.string ⟨(Lib.replace s.data.toList old.data.toList new.data.toList n).toArray⟩) ∧ Below w.heap.size w w' := Any.strings_Replace_shaped Tryz.laysM154 Tryz.Builder_Extra_M154 s old new n w h hs h1 hlen
def Tryz.lays260_ren : Go.Shelf.Ren := ⟨fun | 260 => 239 | n => n, fun | 9 => 9 | 21 => 21 | 3 => 3 | 4 => 4 | 5 => 5 | 119 => 271 | 0 => 0 | 46 => 175 | 139 => 274 | 138 => 273 | n => n, fun | 3 => 1 | 4 => 2 | n => n⟩
theorem Tryz.lays260 : Go.Proofs.Lays.n260 Tryz.prog Tryz.lays260_ren := {
  mixed := by kernel_rfl
  f260 := Tryz.func239.trans (congrArg some (by kernel_rfl))
  t0 := Tryz.underlying0
  a0 := Tryz.isAgg0
  z0 := Tryz.sizeOf0
  v0 := Tryz.zeroValue0
  t3 := Tryz.underlying3
  a3 := Tryz.isAgg3
  z3 := Tryz.sizeOf3
  v3 := Tryz.zeroValue3
  t4 := Tryz.underlying4
  a4 := Tryz.isAgg4
  z4 := Tryz.sizeOf4
  v4 := Tryz.zeroValue4
  t5 := Tryz.underlying5
  a5 := Tryz.isAgg5
  z5 := Tryz.sizeOf5
  v5 := Tryz.zeroValue5
  t9 := Tryz.underlying9
  a9 := Tryz.isAgg9
  z9 := Tryz.sizeOf9
  v9 := Tryz.zeroValue9
  t21 := Tryz.underlying21
  a21 := Tryz.isAgg21
  z21 := Tryz.sizeOf21
  v21 := Tryz.zeroValue21
  t46 := Tryz.underlying175
  a46 := Tryz.isAgg175
  z46 := Tryz.sizeOf175
  v46 := Tryz.zeroValue175
  t119 := Tryz.underlying271
  a119 := Tryz.isAgg271
  z119 := Tryz.sizeOf271
  t138 := Tryz.underlying273
  a138 := Tryz.isAgg273
  z138 := Tryz.sizeOf273
  v138 := Tryz.zeroValue273
  t139 := Tryz.underlying274
  a139 := Tryz.isAgg274
  z139 := Tryz.sizeOf274
  v139 := Tryz.zeroValue274
  g3 := by kernel_rfl
  g4 := by kernel_rfl }
open Go.RowKit Go.Lib in
theorem Tryz.utf8_decodeRuneInStringSlow (s : ByteArray) (w : World) (hT : Lib.Utf8Tabs 1 2 w) :
    Calls Tryz.prog 239 #[.string s] w fun e w' => e = .returned (.tuple #[.int .i32 (Lib.decodeGo s).1, .int .i64 (Lib.decodeGo s).2]) ∧ Below w.heap.size w w' := Any.utf8_decodeRuneInStringSlow Tryz.lays260 s w hT
open Go.RowKit Go.Sort in
/-- .. and plain. (LAID: no walk: one application.) -/
theorem Tryz.slices_Sort_int_none (p : Option Addr) (cap : Nat) (w : World) :
    Calls Tryz.prog 229 #[.slice p 0 cap] w fun e w' => e = .returned (.tuple #[]) ∧ w' = w := Any.slices_Sort_int_none Tryz.lays189 p cap w
end Go.Proofs
