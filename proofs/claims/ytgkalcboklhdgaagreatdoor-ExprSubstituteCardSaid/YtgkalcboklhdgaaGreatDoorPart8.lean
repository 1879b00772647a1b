/- Lemmas and walks for the statements of this seat, part 8, merged from smaller texts: DERIVED: THE SHELF's CONTRACTS AT THIS DUMP, IN PLAIN WORDS (tools/lay-plain.mjs out of 'TryzShelf.lean', which tools/lay-shelf.mjs wrote): THE SAME DECLARATIONS UNDER THE SAME NAMES: 'import', 'namespace', 'open', 'def', 'theorem' AND NOTHING ELSE: no command of the shelf's: FOR A HAND-IN. Each laying: the table of numbers ('.._ren') and one theorem, a field a fact of the dump's own or the kernel's comparison; each contract: ONE APPLICATION.; slices.Sort and slices.Compact on rows of the call's own.; Print in general: Itoa of a program whose table stands; slices.Equal of two rows.; Names.; GreatBindings. -/
import Derived.Shelf.Strings.Builder1
import Derived.Shelf.Small.Bits
import Derived.Shelf.Strings.BuilderF
import Derived.Shelf.Strings.BuilderK
import Derived.Shelf.Strconv.Itoa0
import Derived.Shelf.Strconv.Itoa1
import Derived.Shelf.LaysM
import Derived.Shelf.Strconv.Itoa2
import Derived.Shelf.Strconv.Itoa3
import Derived.Shelf.Sort.Plain
import Derived.Shelf.Slices.Equal
import Derived.Shelf.Slices.CompactS
import Derived.Shelf.Slices.Cells
import Derived.Shelf.Slices.In.SortNone
import Derived.Shelf.Slices.Empties2
import Derived.Test.YtgkalcboklhdgaaGreatDoorProg
import Derived.Sort.OwnSorted
import Derived.Lib.ItoaMem
import Derived.Lib.LaidTab
import Derived.Test.YtgkalcboklhdgaaGreatDoorPart7
import Derived.Test.YtgkalcboklhdgaaGreatDoorPart4
import Derived.Test.YtgkalcboklhdgaaGreatDoorPart6
import Derived.Test.YtgkalcboklhdgaaGreatDoorPart1

namespace Go.Proofs
open Go.Shelf
def Tryz.lays169_ren : Go.Shelf.Ren := ⟨fun | 169 => 35 | n => n, fun | 70 => 55 | 9 => 9 | 0 => 0 | 72 => 58 | 37 => 56 | 127 => 89 | 3 => 3 | 5 => 5 | n => n, fun | n => n⟩
theorem Tryz.lays169 : Go.Proofs.Lays.n169 Tryz.prog Tryz.lays169_ren := {
  mixed := by kernel_rfl
  f169 := Tryz.func35.trans (congrArg some (by kernel_rfl))
  t0 := Tryz.underlying0
  a0 := Tryz.isAgg0
  z0 := Tryz.sizeOf0
  v0 := Tryz.zeroValue0
  t3 := Tryz.underlying3
  a3 := Tryz.isAgg3
  z3 := Tryz.sizeOf3
  v3 := Tryz.zeroValue3
  t9 := Tryz.underlying9
  a9 := Tryz.isAgg9
  z9 := Tryz.sizeOf9
  v9 := Tryz.zeroValue9
  t37 := Tryz.underlying56
  a37 := Tryz.isAgg56
  z37 := Tryz.sizeOf56
  v37 := Tryz.zeroValue56
  t70 := Tryz.underlying55
  a70 := Tryz.isAgg55
  z70 := Tryz.sizeOf55
  v70 := Tryz.zeroValue55
  t72 := Tryz.underlying58
  a72 := Tryz.isAgg58
  z72 := Tryz.sizeOf58
  v72 := Tryz.zeroValue58
  t127 := Tryz.underlying89
  a127 := Tryz.isAgg89
  z127 := Tryz.sizeOf89
  v127 := Tryz.zeroValue89 }
theorem Tryz.Builder_Extra_169 : Builder.Extra Tryz.prog Tryz.lays169_ren := {
  sizeBuilder := by kernel_rfl
  liesBuilder := by kernel_rfl
  t5 := Tryz.underlying5
  a5 := Tryz.isAgg5
  z5 := Tryz.sizeOf5
  v5 := Tryz.zeroValue5
  infoByte := by kernel_rfl
  cellsByte := by kernel_rfl
  sizeByte := by kernel_rfl
  neB5 := by decide }
open Go.RowKit in
/-- (*strings.Builder).String: "String returns the accumulated string.": OF A BUILDER THAT HOLDS AT LEAST ONE BYTE. ✋ THE MODEL FREEZES THOSE BYTES IN THE BUFFER (unsafe.String): a later write INTO them ends the model's run without an answer; a later append BEHIND them goes on. The statement's order of evaluation is drawn: one draw. (LAID: no walk: one application.) -/
theorem Tryz.Builder_String (B b : Nat) (l : List UInt8) (w : World) (h : Lib.IsBuilder 58 5 B b (Lib.byteCells l) w) (h0 : l ≠ []) :
    Calls Tryz.prog 35 #[.pointer (some ⟨b, 0, none⟩)] w fun e w' => e = .returned (.string ⟨l.toArray⟩) ∧ Below B w w' := Any.Builder_String Tryz.lays169 Tryz.Builder_Extra_169 B b l w h h0
open Go.RowKit in
/-- (*strings.Builder).String OF A BUILDER THAT HOLDS NO BYTE: the empty string. (Its buffer is nil, or a row of which it has taken nothing yet; where that row has NO capacity the model lays one new block for unsafe.SliceData's 'some address'.) One draw. (LAID: no walk: one application.) -/
theorem Tryz.Builder_String_empty (B b : Nat) (w : World) (h : Lib.IsBuilder 58 5 B b [] w) (hBw : B ≤ w.heap.size) :
    Calls Tryz.prog 35 #[.pointer (some ⟨b, 0, none⟩)] w fun e w' => e = .returned (.string ⟨#[]⟩) ∧ Below B w w' := Any.Builder_String_empty Tryz.lays169 Tryz.Builder_Extra_169 B b w h hBw
open Go.RowKit in
/-- (*strings.Builder).String: "String returns the accumulated string.": WHATEVER THE BUILDER HOLDS. (LAID: no walk: one application.) -/
theorem Tryz.Builder_String_any (B b : Nat) (l : List UInt8) (w : World) (h : Lib.IsBuilder 58 5 B b (Lib.byteCells l) w) (hBw : B ≤ w.heap.size) :
    Calls Tryz.prog 35 #[.pointer (some ⟨b, 0, none⟩)] w fun e w' => e = .returned (.string ⟨l.toArray⟩) ∧ Below B w w' := Any.Builder_String_any Tryz.lays169 Tryz.Builder_Extra_169 B b l w h hBw
def Tryz.lays128_ren : Go.Shelf.Ren := ⟨fun | 128 => 109 | n => n, fun | 51 => 121 | 3 => 3 | 4 => 4 | 46 => 94 | 5 => 5 | 9 => 9 | n => n, fun | n => n⟩
theorem Tryz.lays128 : Go.Proofs.Lays.n128 Tryz.prog Tryz.lays128_ren := {
  mixed := by kernel_rfl
  f128 := Tryz.func109.trans (congrArg some (by kernel_rfl))
  t3 := Tryz.underlying3
  a3 := Tryz.isAgg3
  z3 := Tryz.sizeOf3
  v3 := Tryz.zeroValue3
  t4 := Tryz.underlying4
  a4 := Tryz.isAgg4
  z4 := Tryz.sizeOf4
  v4 := Tryz.zeroValue4
  t5 := Tryz.underlying5
  a5 := Tryz.isAgg5
  z5 := Tryz.sizeOf5
  v5 := Tryz.zeroValue5
  t9 := Tryz.underlying9
  a9 := Tryz.isAgg9
  z9 := Tryz.sizeOf9
  v9 := Tryz.zeroValue9
  t46 := Tryz.underlying94
  a46 := Tryz.isAgg94
  z46 := Tryz.sizeOf94
  v46 := Tryz.zeroValue94
  t51 := Tryz.underlying121
  a51 := Tryz.isAgg121
  z51 := Tryz.sizeOf121
  v51 := Tryz.zeroValue121 }
/-- bits.Len32: "Len32 returns the minimum number of bits required to represent x; the result is 0 for x == 0.": IT RETURNS 'Lib.bitLen x'; the world is as it was. ('h0', 'h1': x is a uint32.) (LAID: no walk: one application.) -/
theorem Tryz.bits_Len32 (x : Int) (w : World) (h0 : 0 ≤ x) (h1 : x ≤ 4294967295) :
    Calls Tryz.prog 109 #[.int .u32 x] w fun e w' => e = .returned (.int .i64 (Lib.bitLen x.toNat)) ∧ w' = w := Any.bits_Len32 Tryz.lays128 x w h0 h1
def Tryz.lays125_ren : Go.Shelf.Ren := ⟨fun | 125 => 68 | 128 => 109 | 129 => 110 | n => n, fun | 46 => 94 | 3 => 3 | 51 => 121 | 53 => 123 | 4 => 4 | 5 => 5 | 9 => 9 | n => n, fun | n => n⟩
theorem Tryz.lays125 : Go.Proofs.Lays.n125 Tryz.prog Tryz.lays125_ren := {
  mixed := by kernel_rfl
  f125 := Tryz.func68.trans (congrArg some (by kernel_rfl))
  f128 := Tryz.func109.trans (congrArg some (by kernel_rfl))
  f129 := Tryz.func110.trans (congrArg some (by kernel_rfl))
  t3 := Tryz.underlying3
  a3 := Tryz.isAgg3
  z3 := Tryz.sizeOf3
  v3 := Tryz.zeroValue3
  t4 := Tryz.underlying4
  a4 := Tryz.isAgg4
  z4 := Tryz.sizeOf4
  v4 := Tryz.zeroValue4
  t5 := Tryz.underlying5
  a5 := Tryz.isAgg5
  z5 := Tryz.sizeOf5
  v5 := Tryz.zeroValue5
  t9 := Tryz.underlying9
  a9 := Tryz.isAgg9
  z9 := Tryz.sizeOf9
  v9 := Tryz.zeroValue9
  t46 := Tryz.underlying94
  a46 := Tryz.isAgg94
  z46 := Tryz.sizeOf94
  v46 := Tryz.zeroValue94
  t51 := Tryz.underlying121
  a51 := Tryz.isAgg121
  z51 := Tryz.sizeOf121
  v51 := Tryz.zeroValue121
  t53 := Tryz.underlying123
  a53 := Tryz.isAgg123
  z53 := Tryz.sizeOf123
  v53 := Tryz.zeroValue123 }
/-- bits.Len: "Len returns the minimum number of bits required to represent x; the result is 0 for x == 0.": IT RETURNS 'Lib.bitLen x'; the world is as it was. (A uint has 64 bits in the model.) ITS CALLEE bits.Len64 IS MET BY ITS OWN CONTRACT OFF THE SHELF (lay that first). (LAID: no walk: one application.) -/
theorem Tryz.bits_Len (x : Int) (w : World) (h0 : 0 ≤ x) (h1 : x ≤ 18446744073709551615) :
    Calls Tryz.prog 68 #[.int .u64 x] w fun e w' => e = .returned (.int .i64 (Lib.bitLen x.toNat)) ∧ w' = w := Any.bits_Len Tryz.lays125 x w h0 h1
open Go.RowKit in
/-- (*strings.Builder).String: "String returns the accumulated string.": OF A BUILDER THAT HOLDS AT LEAST ONE BYTE. ✋ THE MODEL FREEZES THOSE BYTES IN THE BUFFER (unsafe.String): a later write INTO them ends the model's run without an answer; a later append BEHIND them goes on. The statement's order of evaluation is drawn: one draw. THE FORM '_f': IT SAYS BESIDES THAT THE BUILDER IS A BUILDER STILL ('Lib.IsBuilderF', the same bytes): SO IT CAN BE WRITTEN ON: 'b.WriteString(b.String()[:k])'. (LAID: no walk: one application.) -/
theorem Tryz.Builder_String_f (B b : Nat) (l : List UInt8) (w : World) (h : Lib.IsBuilderF 58 5 B b (Lib.byteCells l) w) (h0 : l ≠ []) :
    Calls Tryz.prog 35 #[.pointer (some ⟨b, 0, none⟩)] w fun e w' => e = .returned (.string ⟨l.toArray⟩) ∧ (Lib.IsBuilderF 58 5 B b (Lib.byteCells l) w' ∧ Below B w w') := Any.Builder_String_f Tryz.lays169 Tryz.Builder_Extra_169 B b l w h h0
open Go.RowKit in
/-- (*strings.Builder).String OF A BUILDER THAT HOLDS NO BYTE: the empty string; THE FORM '_f': a builder still. (LAID: no walk: one application.) -/
theorem Tryz.Builder_String_empty_f (B b : Nat) (w : World) (h : Lib.IsBuilderF 58 5 B b [] w) (hBw : B ≤ w.heap.size) :
    Calls Tryz.prog 35 #[.pointer (some ⟨b, 0, none⟩)] w fun e w' => e = .returned (.string ⟨#[]⟩) ∧ (Lib.IsBuilderF 58 5 B b [] w' ∧ Below B w w') := Any.Builder_String_empty_f Tryz.lays169 Tryz.Builder_Extra_169 B b w h hBw
open Go.RowKit in
/-- (*strings.Builder).String: "String returns the accumulated string.": WHATEVER THE BUILDER HOLDS; THE FORM '_f': OF A BUILDER THAT MAY HAVE BEEN READ BEFORE; AND IT IS A BUILDER STILL, holding the same bytes: it can be written on. (LAID: no walk: one application.) -/
theorem Tryz.Builder_String_any_f (B b : Nat) (l : List UInt8) (w : World) (h : Lib.IsBuilderF 58 5 B b (Lib.byteCells l) w) (hBw : B ≤ w.heap.size) :
    Calls Tryz.prog 35 #[.pointer (some ⟨b, 0, none⟩)] w fun e w' => e = .returned (.string ⟨l.toArray⟩) ∧ (Lib.IsBuilderF 58 5 B b (Lib.byteCells l) w' ∧ Below B w w') := Any.Builder_String_any_f Tryz.lays169 Tryz.Builder_Extra_169 B b l w h hBw
open Go.RowKit in
/-- (*strings.Builder).String: "String returns the accumulated string.": OF A BUILDER THAT HOLDS AT LEAST ONE BYTE. ✋ THE MODEL FREEZES THOSE BYTES IN THE BUFFER (unsafe.String): a later write INTO them ends the model's run without an answer; a later append BEHIND them goes on. The statement's order of evaluation is drawn: one draw. THE FORM '_k': OVER 'Lib.IsBuilderF' (a builder that 'String()' may have read), AND WITH THE FRAME THAT REACHES ABOVE THE BUILDER: 'Lib.OthersKept': every block that is not b and is no row of uint8's stands as it stood: the iterator of a range among them. (LAID: no walk: one application.) -/
theorem Tryz.Builder_String_k (B b : Nat) (l : List UInt8) (w : World) (h : Lib.IsBuilderF 58 5 B b (Lib.byteCells l) w) (h0 : l ≠ []) :
    Calls Tryz.prog 35 #[.pointer (some ⟨b, 0, none⟩)] w fun e w' => e = .returned (.string ⟨l.toArray⟩) ∧ (Lib.IsBuilderF 58 5 B b (Lib.byteCells l) w' ∧ Below B w w' ∧ Lib.OthersKept 5 (some b) w w') := Any.Builder_String_k Tryz.lays169 Tryz.Builder_Extra_169 B b l w h h0
open Go.RowKit in
/-- (*strings.Builder).String OF A BUILDER THAT HOLDS NO BYTE: the empty string; THE FORM '_k': OVER 'Lib.IsBuilderF' (a builder that 'String()' may have read), AND WITH THE FRAME THAT REACHES ABOVE THE BUILDER: 'Lib.OthersKept': every block that is not b and is no row of uint8's stands as it stood: the iterator of a range among them. (LAID: no walk: one application.) -/
theorem Tryz.Builder_String_empty_k (B b : Nat) (w : World) (h : Lib.IsBuilderF 58 5 B b [] w) (hBw : B ≤ w.heap.size) :
    Calls Tryz.prog 35 #[.pointer (some ⟨b, 0, none⟩)] w fun e w' => e = .returned (.string ⟨#[]⟩) ∧ (Lib.IsBuilderF 58 5 B b [] w' ∧ Below B w w' ∧ Lib.OthersKept 5 (some b) w w') := Any.Builder_String_empty_k Tryz.lays169 Tryz.Builder_Extra_169 B b w h hBw
open Go.RowKit in
/-- (*strings.Builder).String: "String returns the accumulated string.": WHATEVER THE BUILDER HOLDS; THE FORM '_k': OVER 'Lib.IsBuilderF' (a builder that 'String()' may have read), AND WITH THE FRAME THAT REACHES ABOVE THE BUILDER: 'Lib.OthersKept': every block that is not b and is no row of uint8's stands as it stood: the iterator of a range among them. (LAID: no walk: one application.) -/
theorem Tryz.Builder_String_any_k (B b : Nat) (l : List UInt8) (w : World) (h : Lib.IsBuilderF 58 5 B b (Lib.byteCells l) w) (hBw : B ≤ w.heap.size) :
    Calls Tryz.prog 35 #[.pointer (some ⟨b, 0, none⟩)] w fun e w' => e = .returned (.string ⟨l.toArray⟩) ∧ (Lib.IsBuilderF 58 5 B b (Lib.byteCells l) w' ∧ Below B w w' ∧ Lib.OthersKept 5 (some b) w w') := Any.Builder_String_any_k Tryz.lays169 Tryz.Builder_Extra_169 B b l w h hBw
def Tryz.lays129_ren : Go.Shelf.Ren := ⟨fun | 129 => 110 | n => n, fun | 53 => 123 | 3 => 3 | 4 => 4 | 46 => 94 | 5 => 5 | 9 => 9 | n => n, fun | n => n⟩
theorem Tryz.lays129 : Go.Proofs.Lays.n129 Tryz.prog Tryz.lays129_ren := {
  mixed := by kernel_rfl
  f129 := Tryz.func110.trans (congrArg some (by kernel_rfl))
  t3 := Tryz.underlying3
  a3 := Tryz.isAgg3
  z3 := Tryz.sizeOf3
  v3 := Tryz.zeroValue3
  t4 := Tryz.underlying4
  a4 := Tryz.isAgg4
  z4 := Tryz.sizeOf4
  v4 := Tryz.zeroValue4
  t5 := Tryz.underlying5
  a5 := Tryz.isAgg5
  z5 := Tryz.sizeOf5
  v5 := Tryz.zeroValue5
  t9 := Tryz.underlying9
  a9 := Tryz.isAgg9
  z9 := Tryz.sizeOf9
  v9 := Tryz.zeroValue9
  t46 := Tryz.underlying94
  a46 := Tryz.isAgg94
  z46 := Tryz.sizeOf94
  v46 := Tryz.zeroValue94
  t53 := Tryz.underlying123
  a53 := Tryz.isAgg123
  z53 := Tryz.sizeOf123
  v53 := Tryz.zeroValue123 }
/-- bits.Len64: "Len64 returns the minimum number of bits required to represent x; the result is 0 for x == 0.": IT RETURNS 'Lib.bitLen x'; the world is as it was. ('h0', 'h1': x is a uint64.) (LAID: no walk: one application.) -/
theorem Tryz.bits_Len64 (x : Int) (w : World) (h0 : 0 ≤ x) (h1 : x ≤ 18446744073709551615) :
    Calls Tryz.prog 110 #[.int .u64 x] w fun e w' => e = .returned (.int .i64 (Lib.bitLen x.toNat)) ∧ w' = w := Any.bits_Len64 Tryz.lays129 x w h0 h1
def Tryz.lays317_ren : Go.Shelf.Ren := ⟨fun | 317 => 130 | n => n, fun | 3 => 3 | 46 => 94 | n => n, fun | n => n⟩
theorem Tryz.lays317 : Go.Proofs.Lays.n317 Tryz.prog Tryz.lays317_ren := {
  mixed := by kernel_rfl
  f317 := Tryz.func130.trans (congrArg some (by kernel_rfl))
  t3 := Tryz.underlying3
  a3 := Tryz.isAgg3
  z3 := Tryz.sizeOf3
  v3 := Tryz.zeroValue3
  t46 := Tryz.underlying94
  a46 := Tryz.isAgg94
  z46 := Tryz.sizeOf94
  v46 := Tryz.zeroValue94 }
open Go.Lib in
/-- internal/strconv.log10Pow2: "log10Pow2(x) returns ⌊log₁₀ 2**x⌋ = ⌊x * log₁₀ 2⌋.": '(x * 78913) >> 18', at an x up to 64 (a length in bits). The world is as it was. (LAID: no walk: one application.) -/
theorem Tryz.internal_strconv_log10Pow2 (x : Nat) (h : x ≤ 64) (w : World) :
    Calls Tryz.prog 130 #[.int .i64 x] w fun e w' => e = .returned (.int .i64 (Lib.l10 x)) ∧ w' = w := Any.internal_strconv_log10Pow2 Tryz.lays317 x h w
def Tryz.lays318_ren : Go.Shelf.Ren := ⟨fun | 318 => 131 | n => n, fun | 3 => 3 | 4 => 4 | n => n, fun | n => n⟩
theorem Tryz.lays318 : Go.Proofs.Lays.n318 Tryz.prog Tryz.lays318_ren := {
  mixed := by kernel_rfl
  f318 := Tryz.func131.trans (congrArg some (by kernel_rfl))
  t3 := Tryz.underlying3
  a3 := Tryz.isAgg3
  z3 := Tryz.sizeOf3
  v3 := Tryz.zeroValue3
  t4 := Tryz.underlying4
  a4 := Tryz.isAgg4
  z4 := Tryz.sizeOf4
  v4 := Tryz.zeroValue4 }
open Go.Lib in
/-- internal/strconv.bool2: "bool2 converts b to an integer: 1 for true, 0 for false." The world is as it was. (LAID: no walk: one application.) -/
theorem Tryz.internal_strconv_bool2_int (b : Bool) (w : World) :
    Calls Tryz.prog 131 #[.bool b] w fun e w' => e = .returned (.int .i64 (if b then 1 else 0)) ∧ w' = w := Any.internal_strconv_bool2_int Tryz.lays318 b w
def Tryz.lays283_ren : Go.Shelf.Ren := ⟨fun | 283 => 125 | n => n, fun | 3 => 3 | 9 => 9 | 4 => 4 | n => n, fun | n => n⟩
theorem Tryz.lays283 : Go.Proofs.Lays.n283 Tryz.prog Tryz.lays283_ren := {
  mixed := by kernel_rfl
  f283 := Tryz.func125.trans (congrArg some (by kernel_rfl))
  t3 := Tryz.underlying3
  a3 := Tryz.isAgg3
  z3 := Tryz.sizeOf3
  v3 := Tryz.zeroValue3
  t4 := Tryz.underlying4
  a4 := Tryz.isAgg4
  z4 := Tryz.sizeOf4
  v4 := Tryz.zeroValue4
  t9 := Tryz.underlying9
  a9 := Tryz.isAgg9
  z9 := Tryz.sizeOf9
  v9 := Tryz.zeroValue9 }
open Go.Lib in
/-- internal/strconv.small: "small returns the string for an i with 0 <= i < nSmalls.": i's decimal numeral. The world is as it was. (LAID: no walk: one application.) -/
theorem Tryz.internal_strconv_small (i : Nat) (h : i < 100) (w : World) :
    Calls Tryz.prog 125 #[.int .i64 i] w fun e w' => e = .returned (.string ⟨(Lib.decDigits i).toArray⟩) ∧ w' = w := Any.internal_strconv_small Tryz.lays283 i h w
def Tryz.laysM284_ren : Go.Shelf.Ren := ⟨fun | 284 => 126 | 129 => 110 | 317 => 130 | 318 => 131 | n => n, fun | 53 => 123 | 3 => 3 | 212 => 141 | 0 => 0 | 4 => 4 | 46 => 94 | 5 => 5 | 9 => 9 | n => n, fun | 17 => 0 | n => n⟩
theorem Tryz.laysM284 : Go.Proofs.LaysM.n284 Tryz.prog Tryz.laysM284_ren := {
  mixed := by kernel_rfl
  f129 := Tryz.func110.trans (congrArg some (by kernel_rfl))
  f284 := Tryz.func126.trans (congrArg some (by kernel_rfl))
  f317 := Tryz.func130.trans (congrArg some (by kernel_rfl))
  f318 := Tryz.func131.trans (congrArg some (by kernel_rfl))
  t0 := Tryz.underlying0
  a0 := Tryz.isAgg0
  z0 := Tryz.sizeOf0
  v0 := Tryz.zeroValue0
  t3 := Tryz.underlying3
  a3 := Tryz.isAgg3
  z3 := Tryz.sizeOf3
  v3 := Tryz.zeroValue3
  t4 := Tryz.underlying4
  a4 := Tryz.isAgg4
  z4 := Tryz.sizeOf4
  v4 := Tryz.zeroValue4
  t5 := Tryz.underlying5
  a5 := Tryz.isAgg5
  z5 := Tryz.sizeOf5
  v5 := Tryz.zeroValue5
  t9 := Tryz.underlying9
  a9 := Tryz.isAgg9
  z9 := Tryz.sizeOf9
  v9 := Tryz.zeroValue9
  t46 := Tryz.underlying94
  a46 := Tryz.isAgg94
  z46 := Tryz.sizeOf94
  v46 := Tryz.zeroValue94
  t53 := Tryz.underlying123
  a53 := Tryz.isAgg123
  z53 := Tryz.sizeOf123
  v53 := Tryz.zeroValue123
  t212 := Tryz.underlying141
  a212 := Tryz.isAgg141
  z212 := Tryz.sizeOf141
  v212 := Tryz.zeroValue141
  g17 := by kernel_rfl
  i0 := by kernel_rfl
  i3 := by kernel_rfl
  i4 := by kernel_rfl
  i5 := by kernel_rfl
  i9 := by kernel_rfl
  i46 := by kernel_rfl
  i53 := by kernel_rfl
  i212 := by kernel_rfl
  m17 := by kernel_rfl }
open Go.Lib in
/-- internal/strconv.numDigits, at a d that is not 0: THE NUMBER OF d's DECIMAL DIGITS. The world is as it was. (LAID: no walk: one application.) -/
theorem Tryz.internal_strconv_numDigits (u : Nat) (h1 : 1 ≤ u) (h2 : u < 18446744073709551616) (w : World) (htab : Lib.TabIs Tryz.prog w "internal/strconv.uint64pow10" .u64 Lib.pow10Tab) :
    Calls Tryz.prog 126 #[.int .u64 u] w fun e w' => e = .returned (.int .i64 (Lib.nDigits u)) ∧ w' = w := Any.internal_strconv_numDigits Tryz.laysM284 u h1 h2 w htab
def Tryz.lays285_ren : Go.Shelf.Ren := ⟨fun | 285 => 127 | n => n, fun | 37 => 56 | 53 => 123 | 3 => 3 | 4 => 4 | 51 => 121 | 9 => 9 | 5 => 5 | 0 => 0 | n => n, fun | n => n⟩
theorem Tryz.lays285 : Go.Proofs.Lays.n285 Tryz.prog Tryz.lays285_ren := {
  mixed := by kernel_rfl
  f285 := Tryz.func127.trans (congrArg some (by kernel_rfl))
  t0 := Tryz.underlying0
  a0 := Tryz.isAgg0
  z0 := Tryz.sizeOf0
  v0 := Tryz.zeroValue0
  t3 := Tryz.underlying3
  a3 := Tryz.isAgg3
  z3 := Tryz.sizeOf3
  v3 := Tryz.zeroValue3
  t4 := Tryz.underlying4
  a4 := Tryz.isAgg4
  z4 := Tryz.sizeOf4
  v4 := Tryz.zeroValue4
  t5 := Tryz.underlying5
  a5 := Tryz.isAgg5
  z5 := Tryz.sizeOf5
  v5 := Tryz.zeroValue5
  t9 := Tryz.underlying9
  a9 := Tryz.isAgg9
  z9 := Tryz.sizeOf9
  v9 := Tryz.zeroValue9
  t37 := Tryz.underlying56
  a37 := Tryz.isAgg56
  z37 := Tryz.sizeOf56
  v37 := Tryz.zeroValue56
  t51 := Tryz.underlying121
  a51 := Tryz.isAgg121
  z51 := Tryz.sizeOf121
  v51 := Tryz.zeroValue121
  t53 := Tryz.underlying123
  a53 := Tryz.isAgg123
  z53 := Tryz.sizeOf123
  v53 := Tryz.zeroValue123 }
open Go.RowKit Go.Sort Go.Lib in
/-- internal/strconv.formatBase10: "formatBase10 formats the decimal representation of u into a. The caller is responsible for ensuring that a is big enough to hold u. If a is too big, leading zeros will be filled in as needed.": THE ROW HOLDS u's DIGITS ('FmtInv .. 0 ..': every place t holds 'dg u (len - 1 - t)'); all else is as it was but for the count of draws. (LAID: no walk: one application.) -/
theorem Tryz.internal_strconv_formatBase10 (blk off cap : Nat) (u : Nat) (d : Array UInt8) (w : World) (hH : Holds (fun (b : UInt8) => Value.int .u8 (b.toNat : Int)) w blk off d) (hu : u < 10 ^ d.size) (hu64 : u < 18446744073709551616) (hsz : d.size < 4611686018427387904) :
    Calls Tryz.prog 127 #[.slice (some ⟨blk, off, none⟩) d.size cap, .int .u64 u] w fun e w' =>
      e = .returned (.tuple #[]) ∧ ∃ (n v' : Nat) (dk : Array UInt8), w' = (putRow (fun (b : UInt8) => Value.int .u8 (b.toNat : Int)) w blk off dk).drewN n ∧ FmtInv d.size u 0 v' dk := Any.internal_strconv_formatBase10 Tryz.lays285 blk off cap u d w hH hu hu64 hsz
def Tryz.laysM246_ren : Go.Shelf.Ren := ⟨fun | 246 => 114 | 283 => 125 | 284 => 126 | 285 => 127 | 286 => 128 | 129 => 110 | 317 => 130 | 318 => 131 | 319 => 132 | 320 => 133 | 337 => 134 | 338 => 135 | n => n, fun | 2 => 2 | 3 => 3 | 9 => 9 | 4 => 4 | 171 => 133 | 0 => 0 | 53 => 123 | 37 => 56 | 5 => 5 | 173 => 135 | 212 => 141 | 51 => 121 | 20 => 20 | 213 => 142 | 46 => 94 | 232 => 144 | 233 => 145 | n => n, fun | 17 => 0 | 18 => 1 | 19 => 2 | n => n⟩
theorem Tryz.laysM246 : Go.Proofs.LaysM.n246 Tryz.prog Tryz.laysM246_ren := {
  mixed := by kernel_rfl
  f129 := Tryz.func110.trans (congrArg some (by kernel_rfl))
  f246 := Tryz.func114.trans (congrArg some (by kernel_rfl))
  f283 := Tryz.func125.trans (congrArg some (by kernel_rfl))
  f284 := Tryz.func126.trans (congrArg some (by kernel_rfl))
  f285 := Tryz.func127.trans (congrArg some (by kernel_rfl))
  f286 := Tryz.func128.trans (congrArg some (by kernel_rfl))
  f317 := Tryz.func130.trans (congrArg some (by kernel_rfl))
  f318 := Tryz.func131.trans (congrArg some (by kernel_rfl))
  f319 := Tryz.func132.trans (congrArg some (by kernel_rfl))
  f320 := Tryz.func133.trans (congrArg some (by kernel_rfl))
  f337 := Tryz.func134.trans (congrArg some (by kernel_rfl))
  f338 := Tryz.func135.trans (congrArg some (by kernel_rfl))
  t0 := Tryz.underlying0
  a0 := Tryz.isAgg0
  z0 := Tryz.sizeOf0
  v0 := Tryz.zeroValue0
  t2 := Tryz.underlying2
  a2 := Tryz.isAgg2
  z2 := Tryz.sizeOf2
  v2 := Tryz.zeroValue2
  t3 := Tryz.underlying3
  a3 := Tryz.isAgg3
  z3 := Tryz.sizeOf3
  v3 := Tryz.zeroValue3
  t4 := Tryz.underlying4
  a4 := Tryz.isAgg4
  z4 := Tryz.sizeOf4
  v4 := Tryz.zeroValue4
  t5 := Tryz.underlying5
  a5 := Tryz.isAgg5
  z5 := Tryz.sizeOf5
  v5 := Tryz.zeroValue5
  t9 := Tryz.underlying9
  a9 := Tryz.isAgg9
  z9 := Tryz.sizeOf9
  v9 := Tryz.zeroValue9
  t20 := Tryz.underlying20
  a20 := Tryz.isAgg20
  z20 := Tryz.sizeOf20
  v20 := Tryz.zeroValue20
  t37 := Tryz.underlying56
  a37 := Tryz.isAgg56
  z37 := Tryz.sizeOf56
  v37 := Tryz.zeroValue56
  t46 := Tryz.underlying94
  a46 := Tryz.isAgg94
  z46 := Tryz.sizeOf94
  v46 := Tryz.zeroValue94
  t51 := Tryz.underlying121
  a51 := Tryz.isAgg121
  z51 := Tryz.sizeOf121
  v51 := Tryz.zeroValue121
  t53 := Tryz.underlying123
  a53 := Tryz.isAgg123
  z53 := Tryz.sizeOf123
  v53 := Tryz.zeroValue123
  t171 := Tryz.underlying133
  a171 := Tryz.isAgg133
  z171 := Tryz.sizeOf133
  v171 := Tryz.zeroValue133
  t173 := Tryz.underlying135
  a173 := Tryz.isAgg135
  z173 := Tryz.sizeOf135
  v173 := Tryz.zeroValue135
  t212 := Tryz.underlying141
  a212 := Tryz.isAgg141
  z212 := Tryz.sizeOf141
  v212 := Tryz.zeroValue141
  t213 := Tryz.underlying142
  a213 := Tryz.isAgg142
  z213 := Tryz.sizeOf142
  t232 := Tryz.underlying144
  a232 := Tryz.isAgg144
  z232 := Tryz.sizeOf144
  v232 := Tryz.zeroValue144
  t233 := Tryz.underlying145
  a233 := Tryz.isAgg145
  z233 := Tryz.sizeOf145
  v233 := Tryz.zeroValue145
  g17 := by kernel_rfl
  g18 := by kernel_rfl
  g19 := by kernel_rfl
  i0 := by kernel_rfl
  i2 := by kernel_rfl
  i3 := by kernel_rfl
  i4 := by kernel_rfl
  i5 := by kernel_rfl
  i9 := by kernel_rfl
  i20 := by kernel_rfl
  i37 := by kernel_rfl
  i46 := by kernel_rfl
  i51 := by kernel_rfl
  i53 := by kernel_rfl
  i171 := by kernel_rfl
  i173 := by kernel_rfl
  i212 := by kernel_rfl
  i232 := by kernel_rfl
  i233 := by kernel_rfl
  m17 := by kernel_rfl
  m18 := by kernel_rfl
  m19 := by kernel_rfl }
open Go.RowKit Go.Sort Go.Lib in
/-- internal/strconv.FormatInt: "FormatInt returns the string representation of i in the given base": AT BASE 10: i's decimal numeral, for every int64. The world behind the call: the world before it, new blocks behind the heap, draws. (LAID: no walk: one application.) -/
theorem Tryz.internal_strconv_FormatInt_10 (n : Int) (h0 : -9223372036854775808 ≤ n) (h1 : n ≤ 9223372036854775807) (w : World) (htab : Lib.TabIs Tryz.prog w "internal/strconv.uint64pow10" .u64 Lib.pow10Tab) :
    Calls Tryz.prog 114 #[.int .i64 n, .int .i64 10] w fun e w' => e = .returned (.string ⟨(Lib.itoa n).toArray⟩) ∧ ∃ k os, w' = grow (w.drewN k) os := Any.internal_strconv_FormatInt_10 Tryz.laysM246 n h0 h1 w htab
def Tryz.lays246_ren : Go.Shelf.Ren := ⟨fun | 246 => 114 | 283 => 125 | 284 => 126 | 285 => 127 | 286 => 128 | 129 => 110 | 317 => 130 | 318 => 131 | 319 => 132 | 320 => 133 | 337 => 134 | 338 => 135 | n => n, fun | 2 => 2 | 3 => 3 | 9 => 9 | 4 => 4 | 171 => 133 | 0 => 0 | 53 => 123 | 37 => 56 | 5 => 5 | 173 => 135 | 212 => 141 | 51 => 121 | 20 => 20 | 213 => 142 | 46 => 94 | 232 => 144 | 233 => 145 | n => n, fun | 17 => 0 | 18 => 1 | 19 => 2 | n => n⟩
theorem Tryz.lays246 : Go.Proofs.Lays.n246 Tryz.prog Tryz.lays246_ren := {
  mixed := by kernel_rfl
  f129 := Tryz.func110.trans (congrArg some (by kernel_rfl))
  f246 := Tryz.func114.trans (congrArg some (by kernel_rfl))
  f283 := Tryz.func125.trans (congrArg some (by kernel_rfl))
  f284 := Tryz.func126.trans (congrArg some (by kernel_rfl))
  f285 := Tryz.func127.trans (congrArg some (by kernel_rfl))
  f286 := Tryz.func128.trans (congrArg some (by kernel_rfl))
  f317 := Tryz.func130.trans (congrArg some (by kernel_rfl))
  f318 := Tryz.func131.trans (congrArg some (by kernel_rfl))
  f319 := Tryz.func132.trans (congrArg some (by kernel_rfl))
  f320 := Tryz.func133.trans (congrArg some (by kernel_rfl))
  f337 := Tryz.func134.trans (congrArg some (by kernel_rfl))
  f338 := Tryz.func135.trans (congrArg some (by kernel_rfl))
  t0 := Tryz.underlying0
  a0 := Tryz.isAgg0
  z0 := Tryz.sizeOf0
  v0 := Tryz.zeroValue0
  t2 := Tryz.underlying2
  a2 := Tryz.isAgg2
  z2 := Tryz.sizeOf2
  v2 := Tryz.zeroValue2
  t3 := Tryz.underlying3
  a3 := Tryz.isAgg3
  z3 := Tryz.sizeOf3
  v3 := Tryz.zeroValue3
  t4 := Tryz.underlying4
  a4 := Tryz.isAgg4
  z4 := Tryz.sizeOf4
  v4 := Tryz.zeroValue4
  t5 := Tryz.underlying5
  a5 := Tryz.isAgg5
  z5 := Tryz.sizeOf5
  v5 := Tryz.zeroValue5
  t9 := Tryz.underlying9
  a9 := Tryz.isAgg9
  z9 := Tryz.sizeOf9
  v9 := Tryz.zeroValue9
  t20 := Tryz.underlying20
  a20 := Tryz.isAgg20
  z20 := Tryz.sizeOf20
  v20 := Tryz.zeroValue20
  t37 := Tryz.underlying56
  a37 := Tryz.isAgg56
  z37 := Tryz.sizeOf56
  v37 := Tryz.zeroValue56
  t46 := Tryz.underlying94
  a46 := Tryz.isAgg94
  z46 := Tryz.sizeOf94
  v46 := Tryz.zeroValue94
  t51 := Tryz.underlying121
  a51 := Tryz.isAgg121
  z51 := Tryz.sizeOf121
  v51 := Tryz.zeroValue121
  t53 := Tryz.underlying123
  a53 := Tryz.isAgg123
  z53 := Tryz.sizeOf123
  v53 := Tryz.zeroValue123
  t171 := Tryz.underlying133
  a171 := Tryz.isAgg133
  z171 := Tryz.sizeOf133
  v171 := Tryz.zeroValue133
  t173 := Tryz.underlying135
  a173 := Tryz.isAgg135
  z173 := Tryz.sizeOf135
  v173 := Tryz.zeroValue135
  t212 := Tryz.underlying141
  a212 := Tryz.isAgg141
  z212 := Tryz.sizeOf141
  v212 := Tryz.zeroValue141
  t213 := Tryz.underlying142
  a213 := Tryz.isAgg142
  z213 := Tryz.sizeOf142
  t232 := Tryz.underlying144
  a232 := Tryz.isAgg144
  z232 := Tryz.sizeOf144
  v232 := Tryz.zeroValue144
  t233 := Tryz.underlying145
  a233 := Tryz.isAgg145
  z233 := Tryz.sizeOf145
  v233 := Tryz.zeroValue145
  g17 := by kernel_rfl
  g18 := by kernel_rfl
  g19 := by kernel_rfl }
open Go.RowKit Go.Sort Go.Lib in
/-- THE ROAD WITHOUT THE TABLE: 0 <= i < 100: two constants are read, nothing is laid: no premise on the world, and the world is as it was. (LAID: no walk: one application.) -/
theorem Tryz.internal_strconv_FormatInt_10_small (i : Nat) (hi : i < 100) (w : World) :
    Calls Tryz.prog 114 #[.int .i64 i, .int .i64 10] w fun e w' => e = .returned (.string ⟨(Lib.decDigits i).toArray⟩) ∧ w' = w := Any.internal_strconv_FormatInt_10_small Tryz.lays246 i hi w
def Tryz.laysM243_ren : Go.Shelf.Ren := ⟨fun | 243 => 81 | 246 => 114 | 283 => 125 | 284 => 126 | 285 => 127 | 286 => 128 | 129 => 110 | 317 => 130 | 318 => 131 | 319 => 132 | 320 => 133 | 337 => 134 | 338 => 135 | n => n, fun | 3 => 3 | 9 => 9 | 2 => 2 | 4 => 4 | 171 => 133 | 0 => 0 | 53 => 123 | 37 => 56 | 5 => 5 | 173 => 135 | 212 => 141 | 51 => 121 | 20 => 20 | 213 => 142 | 46 => 94 | 232 => 144 | 233 => 145 | n => n, fun | 17 => 0 | 18 => 1 | 19 => 2 | n => n⟩
theorem Tryz.laysM243 : Go.Proofs.LaysM.n243 Tryz.prog Tryz.laysM243_ren := {
  mixed := by kernel_rfl
  f129 := Tryz.func110.trans (congrArg some (by kernel_rfl))
  f243 := Tryz.func81.trans (congrArg some (by kernel_rfl))
  f246 := Tryz.func114.trans (congrArg some (by kernel_rfl))
  f283 := Tryz.func125.trans (congrArg some (by kernel_rfl))
  f284 := Tryz.func126.trans (congrArg some (by kernel_rfl))
  f285 := Tryz.func127.trans (congrArg some (by kernel_rfl))
  f286 := Tryz.func128.trans (congrArg some (by kernel_rfl))
  f317 := Tryz.func130.trans (congrArg some (by kernel_rfl))
  f318 := Tryz.func131.trans (congrArg some (by kernel_rfl))
  f319 := Tryz.func132.trans (congrArg some (by kernel_rfl))
  f320 := Tryz.func133.trans (congrArg some (by kernel_rfl))
  f337 := Tryz.func134.trans (congrArg some (by kernel_rfl))
  f338 := Tryz.func135.trans (congrArg some (by kernel_rfl))
  t0 := Tryz.underlying0
  a0 := Tryz.isAgg0
  z0 := Tryz.sizeOf0
  v0 := Tryz.zeroValue0
  t2 := Tryz.underlying2
  a2 := Tryz.isAgg2
  z2 := Tryz.sizeOf2
  v2 := Tryz.zeroValue2
  t3 := Tryz.underlying3
  a3 := Tryz.isAgg3
  z3 := Tryz.sizeOf3
  v3 := Tryz.zeroValue3
  t4 := Tryz.underlying4
  a4 := Tryz.isAgg4
  z4 := Tryz.sizeOf4
  v4 := Tryz.zeroValue4
  t5 := Tryz.underlying5
  a5 := Tryz.isAgg5
  z5 := Tryz.sizeOf5
  v5 := Tryz.zeroValue5
  t9 := Tryz.underlying9
  a9 := Tryz.isAgg9
  z9 := Tryz.sizeOf9
  v9 := Tryz.zeroValue9
  t20 := Tryz.underlying20
  a20 := Tryz.isAgg20
  z20 := Tryz.sizeOf20
  v20 := Tryz.zeroValue20
  t37 := Tryz.underlying56
  a37 := Tryz.isAgg56
  z37 := Tryz.sizeOf56
  v37 := Tryz.zeroValue56
  t46 := Tryz.underlying94
  a46 := Tryz.isAgg94
  z46 := Tryz.sizeOf94
  v46 := Tryz.zeroValue94
  t51 := Tryz.underlying121
  a51 := Tryz.isAgg121
  z51 := Tryz.sizeOf121
  v51 := Tryz.zeroValue121
  t53 := Tryz.underlying123
  a53 := Tryz.isAgg123
  z53 := Tryz.sizeOf123
  v53 := Tryz.zeroValue123
  t171 := Tryz.underlying133
  a171 := Tryz.isAgg133
  z171 := Tryz.sizeOf133
  v171 := Tryz.zeroValue133
  t173 := Tryz.underlying135
  a173 := Tryz.isAgg135
  z173 := Tryz.sizeOf135
  v173 := Tryz.zeroValue135
  t212 := Tryz.underlying141
  a212 := Tryz.isAgg141
  z212 := Tryz.sizeOf141
  v212 := Tryz.zeroValue141
  t213 := Tryz.underlying142
  a213 := Tryz.isAgg142
  z213 := Tryz.sizeOf142
  t232 := Tryz.underlying144
  a232 := Tryz.isAgg144
  z232 := Tryz.sizeOf144
  v232 := Tryz.zeroValue144
  t233 := Tryz.underlying145
  a233 := Tryz.isAgg145
  z233 := Tryz.sizeOf145
  v233 := Tryz.zeroValue145
  g17 := by kernel_rfl
  g18 := by kernel_rfl
  g19 := by kernel_rfl
  i0 := by kernel_rfl
  i2 := by kernel_rfl
  i3 := by kernel_rfl
  i4 := by kernel_rfl
  i5 := by kernel_rfl
  i9 := by kernel_rfl
  i20 := by kernel_rfl
  i37 := by kernel_rfl
  i46 := by kernel_rfl
  i51 := by kernel_rfl
  i53 := by kernel_rfl
  i171 := by kernel_rfl
  i173 := by kernel_rfl
  i212 := by kernel_rfl
  i232 := by kernel_rfl
  i233 := by kernel_rfl
  m17 := by kernel_rfl
  m18 := by kernel_rfl
  m19 := by kernel_rfl }
open Go.RowKit Go.Sort Go.Lib in
/-- internal/strconv.Itoa: "Itoa is equivalent to FormatInt(int64(i), 10).": i's decimal numeral, for every int. (LAID: no walk: one application.) -/
theorem Tryz.internal_strconv_Itoa (n : Int) (h0 : -9223372036854775808 ≤ n) (h1 : n ≤ 9223372036854775807) (w : World) (htab : Lib.TabIs Tryz.prog w "internal/strconv.uint64pow10" .u64 Lib.pow10Tab) :
    Calls Tryz.prog 81 #[.int .i64 n] w fun e w' => e = .returned (.string ⟨(Lib.itoa n).toArray⟩) ∧ ∃ k os, w' = grow (w.drewN k) os := Any.internal_strconv_Itoa Tryz.laysM243 n h0 h1 w htab
def Tryz.lays243_ren : Go.Shelf.Ren := ⟨fun | 243 => 81 | 246 => 114 | 283 => 125 | 284 => 126 | 285 => 127 | 286 => 128 | 129 => 110 | 317 => 130 | 318 => 131 | 319 => 132 | 320 => 133 | 337 => 134 | 338 => 135 | n => n, fun | 3 => 3 | 9 => 9 | 2 => 2 | 4 => 4 | 171 => 133 | 0 => 0 | 53 => 123 | 37 => 56 | 5 => 5 | 173 => 135 | 212 => 141 | 51 => 121 | 20 => 20 | 213 => 142 | 46 => 94 | 232 => 144 | 233 => 145 | n => n, fun | 17 => 0 | 18 => 1 | 19 => 2 | n => n⟩
theorem Tryz.lays243 : Go.Proofs.Lays.n243 Tryz.prog Tryz.lays243_ren := {
  mixed := by kernel_rfl
  f129 := Tryz.func110.trans (congrArg some (by kernel_rfl))
  f243 := Tryz.func81.trans (congrArg some (by kernel_rfl))
  f246 := Tryz.func114.trans (congrArg some (by kernel_rfl))
  f283 := Tryz.func125.trans (congrArg some (by kernel_rfl))
  f284 := Tryz.func126.trans (congrArg some (by kernel_rfl))
  f285 := Tryz.func127.trans (congrArg some (by kernel_rfl))
  f286 := Tryz.func128.trans (congrArg some (by kernel_rfl))
  f317 := Tryz.func130.trans (congrArg some (by kernel_rfl))
  f318 := Tryz.func131.trans (congrArg some (by kernel_rfl))
  f319 := Tryz.func132.trans (congrArg some (by kernel_rfl))
  f320 := Tryz.func133.trans (congrArg some (by kernel_rfl))
  f337 := Tryz.func134.trans (congrArg some (by kernel_rfl))
  f338 := Tryz.func135.trans (congrArg some (by kernel_rfl))
  t0 := Tryz.underlying0
  a0 := Tryz.isAgg0
  z0 := Tryz.sizeOf0
  v0 := Tryz.zeroValue0
  t2 := Tryz.underlying2
  a2 := Tryz.isAgg2
  z2 := Tryz.sizeOf2
  v2 := Tryz.zeroValue2
  t3 := Tryz.underlying3
  a3 := Tryz.isAgg3
  z3 := Tryz.sizeOf3
  v3 := Tryz.zeroValue3
  t4 := Tryz.underlying4
  a4 := Tryz.isAgg4
  z4 := Tryz.sizeOf4
  v4 := Tryz.zeroValue4
  t5 := Tryz.underlying5
  a5 := Tryz.isAgg5
  z5 := Tryz.sizeOf5
  v5 := Tryz.zeroValue5
  t9 := Tryz.underlying9
  a9 := Tryz.isAgg9
  z9 := Tryz.sizeOf9
  v9 := Tryz.zeroValue9
  t20 := Tryz.underlying20
  a20 := Tryz.isAgg20
  z20 := Tryz.sizeOf20
  v20 := Tryz.zeroValue20
  t37 := Tryz.underlying56
  a37 := Tryz.isAgg56
  z37 := Tryz.sizeOf56
  v37 := Tryz.zeroValue56
  t46 := Tryz.underlying94
  a46 := Tryz.isAgg94
  z46 := Tryz.sizeOf94
  v46 := Tryz.zeroValue94
  t51 := Tryz.underlying121
  a51 := Tryz.isAgg121
  z51 := Tryz.sizeOf121
  v51 := Tryz.zeroValue121
  t53 := Tryz.underlying123
  a53 := Tryz.isAgg123
  z53 := Tryz.sizeOf123
  v53 := Tryz.zeroValue123
  t171 := Tryz.underlying133
  a171 := Tryz.isAgg133
  z171 := Tryz.sizeOf133
  v171 := Tryz.zeroValue133
  t173 := Tryz.underlying135
  a173 := Tryz.isAgg135
  z173 := Tryz.sizeOf135
  v173 := Tryz.zeroValue135
  t212 := Tryz.underlying141
  a212 := Tryz.isAgg141
  z212 := Tryz.sizeOf141
  v212 := Tryz.zeroValue141
  t213 := Tryz.underlying142
  a213 := Tryz.isAgg142
  z213 := Tryz.sizeOf142
  t232 := Tryz.underlying144
  a232 := Tryz.isAgg144
  z232 := Tryz.sizeOf144
  v232 := Tryz.zeroValue144
  t233 := Tryz.underlying145
  a233 := Tryz.isAgg145
  z233 := Tryz.sizeOf145
  v233 := Tryz.zeroValue145
  g17 := by kernel_rfl
  g18 := by kernel_rfl
  g19 := by kernel_rfl }
open Go.RowKit Go.Sort Go.Lib in
/-- THE ROAD WITHOUT THE TABLE: 0 <= i < 100. (LAID: no walk: one application.) -/
theorem Tryz.internal_strconv_Itoa_small (i : Nat) (hi : i < 100) (w : World) :
    Calls Tryz.prog 81 #[.int .i64 i] w fun e w' => e = .returned (.string ⟨(Lib.decDigits i).toArray⟩) ∧ w' = w := Any.internal_strconv_Itoa_small Tryz.lays243 i hi w
def Tryz.laysM171_ren : Go.Shelf.Ren := ⟨fun | 171 => 61 | 243 => 81 | 246 => 114 | 283 => 125 | 284 => 126 | 285 => 127 | 286 => 128 | 129 => 110 | 317 => 130 | 318 => 131 | 319 => 132 | 320 => 133 | 337 => 134 | 338 => 135 | n => n, fun | 3 => 3 | 9 => 9 | 2 => 2 | 4 => 4 | 171 => 133 | 0 => 0 | 53 => 123 | 37 => 56 | 5 => 5 | 173 => 135 | 212 => 141 | 51 => 121 | 20 => 20 | 213 => 142 | 46 => 94 | 232 => 144 | 233 => 145 | n => n, fun | 17 => 0 | 18 => 1 | 19 => 2 | n => n⟩
theorem Tryz.laysM171 : Go.Proofs.LaysM.n171 Tryz.prog Tryz.laysM171_ren := {
  mixed := by kernel_rfl
  f129 := Tryz.func110.trans (congrArg some (by kernel_rfl))
  f171 := Tryz.func61.trans (congrArg some (by kernel_rfl))
  f243 := Tryz.func81.trans (congrArg some (by kernel_rfl))
  f246 := Tryz.func114.trans (congrArg some (by kernel_rfl))
  f283 := Tryz.func125.trans (congrArg some (by kernel_rfl))
  f284 := Tryz.func126.trans (congrArg some (by kernel_rfl))
  f285 := Tryz.func127.trans (congrArg some (by kernel_rfl))
  f286 := Tryz.func128.trans (congrArg some (by kernel_rfl))
  f317 := Tryz.func130.trans (congrArg some (by kernel_rfl))
  f318 := Tryz.func131.trans (congrArg some (by kernel_rfl))
  f319 := Tryz.func132.trans (congrArg some (by kernel_rfl))
  f320 := Tryz.func133.trans (congrArg some (by kernel_rfl))
  f337 := Tryz.func134.trans (congrArg some (by kernel_rfl))
  f338 := Tryz.func135.trans (congrArg some (by kernel_rfl))
  t0 := Tryz.underlying0
  a0 := Tryz.isAgg0
  z0 := Tryz.sizeOf0
  v0 := Tryz.zeroValue0
  t2 := Tryz.underlying2
  a2 := Tryz.isAgg2
  z2 := Tryz.sizeOf2
  v2 := Tryz.zeroValue2
  t3 := Tryz.underlying3
  a3 := Tryz.isAgg3
  z3 := Tryz.sizeOf3
  v3 := Tryz.zeroValue3
  t4 := Tryz.underlying4
  a4 := Tryz.isAgg4
  z4 := Tryz.sizeOf4
  v4 := Tryz.zeroValue4
  t5 := Tryz.underlying5
  a5 := Tryz.isAgg5
  z5 := Tryz.sizeOf5
  v5 := Tryz.zeroValue5
  t9 := Tryz.underlying9
  a9 := Tryz.isAgg9
  z9 := Tryz.sizeOf9
  v9 := Tryz.zeroValue9
  t20 := Tryz.underlying20
  a20 := Tryz.isAgg20
  z20 := Tryz.sizeOf20
  v20 := Tryz.zeroValue20
  t37 := Tryz.underlying56
  a37 := Tryz.isAgg56
  z37 := Tryz.sizeOf56
  v37 := Tryz.zeroValue56
  t46 := Tryz.underlying94
  a46 := Tryz.isAgg94
  z46 := Tryz.sizeOf94
  v46 := Tryz.zeroValue94
  t51 := Tryz.underlying121
  a51 := Tryz.isAgg121
  z51 := Tryz.sizeOf121
  v51 := Tryz.zeroValue121
  t53 := Tryz.underlying123
  a53 := Tryz.isAgg123
  z53 := Tryz.sizeOf123
  v53 := Tryz.zeroValue123
  t171 := Tryz.underlying133
  a171 := Tryz.isAgg133
  z171 := Tryz.sizeOf133
  v171 := Tryz.zeroValue133
  t173 := Tryz.underlying135
  a173 := Tryz.isAgg135
  z173 := Tryz.sizeOf135
  v173 := Tryz.zeroValue135
  t212 := Tryz.underlying141
  a212 := Tryz.isAgg141
  z212 := Tryz.sizeOf141
  v212 := Tryz.zeroValue141
  t213 := Tryz.underlying142
  a213 := Tryz.isAgg142
  z213 := Tryz.sizeOf142
  t232 := Tryz.underlying144
  a232 := Tryz.isAgg144
  z232 := Tryz.sizeOf144
  v232 := Tryz.zeroValue144
  t233 := Tryz.underlying145
  a233 := Tryz.isAgg145
  z233 := Tryz.sizeOf145
  v233 := Tryz.zeroValue145
  g17 := by kernel_rfl
  g18 := by kernel_rfl
  g19 := by kernel_rfl
  i0 := by kernel_rfl
  i2 := by kernel_rfl
  i3 := by kernel_rfl
  i4 := by kernel_rfl
  i5 := by kernel_rfl
  i9 := by kernel_rfl
  i20 := by kernel_rfl
  i37 := by kernel_rfl
  i46 := by kernel_rfl
  i51 := by kernel_rfl
  i53 := by kernel_rfl
  i171 := by kernel_rfl
  i173 := by kernel_rfl
  i212 := by kernel_rfl
  i232 := by kernel_rfl
  i233 := by kernel_rfl
  m17 := by kernel_rfl
  m18 := by kernel_rfl
  m19 := by kernel_rfl }
open Go.RowKit Go.Sort Go.Lib in
/-- strconv.Itoa: "Itoa is equivalent to FormatInt(int64(i), 10).": i's DECIMAL NUMERAL ('Lib.itoa': a '-' where i is negative, then the digits), FOR EVERY int. The world behind the call: the world before it, new blocks behind the heap (the library's 'var a [24]byte'), draws. (LAID: no walk: one application.) -/
theorem Tryz.strconv_Itoa (n : Int) (h0 : -9223372036854775808 ≤ n) (h1 : n ≤ 9223372036854775807) (w : World) (htab : Lib.TabIs Tryz.prog w "internal/strconv.uint64pow10" .u64 Lib.pow10Tab) :
    Calls Tryz.prog 61 #[.int .i64 n] w fun e w' => e = .returned (.string ⟨(Lib.itoa n).toArray⟩) ∧ ∃ k os, w' = grow (w.drewN k) os := Any.strconv_Itoa Tryz.laysM171 n h0 h1 w htab
def Tryz.lays171_ren : Go.Shelf.Ren := ⟨fun | 171 => 61 | 243 => 81 | 246 => 114 | 283 => 125 | 284 => 126 | 285 => 127 | 286 => 128 | 129 => 110 | 317 => 130 | 318 => 131 | 319 => 132 | 320 => 133 | 337 => 134 | 338 => 135 | n => n, fun | 3 => 3 | 9 => 9 | 2 => 2 | 4 => 4 | 171 => 133 | 0 => 0 | 53 => 123 | 37 => 56 | 5 => 5 | 173 => 135 | 212 => 141 | 51 => 121 | 20 => 20 | 213 => 142 | 46 => 94 | 232 => 144 | 233 => 145 | n => n, fun | 17 => 0 | 18 => 1 | 19 => 2 | n => n⟩
theorem Tryz.lays171 : Go.Proofs.Lays.n171 Tryz.prog Tryz.lays171_ren := {
  mixed := by kernel_rfl
  f129 := Tryz.func110.trans (congrArg some (by kernel_rfl))
  f171 := Tryz.func61.trans (congrArg some (by kernel_rfl))
  f243 := Tryz.func81.trans (congrArg some (by kernel_rfl))
  f246 := Tryz.func114.trans (congrArg some (by kernel_rfl))
  f283 := Tryz.func125.trans (congrArg some (by kernel_rfl))
  f284 := Tryz.func126.trans (congrArg some (by kernel_rfl))
  f285 := Tryz.func127.trans (congrArg some (by kernel_rfl))
  f286 := Tryz.func128.trans (congrArg some (by kernel_rfl))
  f317 := Tryz.func130.trans (congrArg some (by kernel_rfl))
  f318 := Tryz.func131.trans (congrArg some (by kernel_rfl))
  f319 := Tryz.func132.trans (congrArg some (by kernel_rfl))
  f320 := Tryz.func133.trans (congrArg some (by kernel_rfl))
  f337 := Tryz.func134.trans (congrArg some (by kernel_rfl))
  f338 := Tryz.func135.trans (congrArg some (by kernel_rfl))
  t0 := Tryz.underlying0
  a0 := Tryz.isAgg0
  z0 := Tryz.sizeOf0
  v0 := Tryz.zeroValue0
  t2 := Tryz.underlying2
  a2 := Tryz.isAgg2
  z2 := Tryz.sizeOf2
  v2 := Tryz.zeroValue2
  t3 := Tryz.underlying3
  a3 := Tryz.isAgg3
  z3 := Tryz.sizeOf3
  v3 := Tryz.zeroValue3
  t4 := Tryz.underlying4
  a4 := Tryz.isAgg4
  z4 := Tryz.sizeOf4
  v4 := Tryz.zeroValue4
  t5 := Tryz.underlying5
  a5 := Tryz.isAgg5
  z5 := Tryz.sizeOf5
  v5 := Tryz.zeroValue5
  t9 := Tryz.underlying9
  a9 := Tryz.isAgg9
  z9 := Tryz.sizeOf9
  v9 := Tryz.zeroValue9
  t20 := Tryz.underlying20
  a20 := Tryz.isAgg20
  z20 := Tryz.sizeOf20
  v20 := Tryz.zeroValue20
  t37 := Tryz.underlying56
  a37 := Tryz.isAgg56
  z37 := Tryz.sizeOf56
  v37 := Tryz.zeroValue56
  t46 := Tryz.underlying94
  a46 := Tryz.isAgg94
  z46 := Tryz.sizeOf94
  v46 := Tryz.zeroValue94
  t51 := Tryz.underlying121
  a51 := Tryz.isAgg121
  z51 := Tryz.sizeOf121
  v51 := Tryz.zeroValue121
  t53 := Tryz.underlying123
  a53 := Tryz.isAgg123
  z53 := Tryz.sizeOf123
  v53 := Tryz.zeroValue123
  t171 := Tryz.underlying133
  a171 := Tryz.isAgg133
  z171 := Tryz.sizeOf133
  v171 := Tryz.zeroValue133
  t173 := Tryz.underlying135
  a173 := Tryz.isAgg135
  z173 := Tryz.sizeOf135
  v173 := Tryz.zeroValue135
  t212 := Tryz.underlying141
  a212 := Tryz.isAgg141
  z212 := Tryz.sizeOf141
  v212 := Tryz.zeroValue141
  t213 := Tryz.underlying142
  a213 := Tryz.isAgg142
  z213 := Tryz.sizeOf142
  t232 := Tryz.underlying144
  a232 := Tryz.isAgg144
  z232 := Tryz.sizeOf144
  v232 := Tryz.zeroValue144
  t233 := Tryz.underlying145
  a233 := Tryz.isAgg145
  z233 := Tryz.sizeOf145
  v233 := Tryz.zeroValue145
  g17 := by kernel_rfl
  g18 := by kernel_rfl
  g19 := by kernel_rfl }
open Go.RowKit Go.Sort Go.Lib in
/-- THE ROAD WITHOUT THE TABLE: 0 <= i < 100: NO PREMISE ON THE WORLD, AND THE WORLD IS AS IT WAS: a row that keeps its argument in that range need list no table ('laid = []'). (LAID: no walk: one application.) -/
theorem Tryz.strconv_Itoa_small (i : Nat) (hi : i < 100) (w : World) :
    Calls Tryz.prog 61 #[.int .i64 i] w fun e w' => e = .returned (.string ⟨(Lib.decDigits i).toArray⟩) ∧ w' = w := Any.strconv_Itoa_small Tryz.lays171 i hi w
def Tryz.lays190_ren : Go.Shelf.Ren := ⟨fun | 190 => 38 | 125 => 68 | 258 => 67 | 128 => 109 | 129 => 110 | 302 => 100 | 303 => 101 | 304 => 102 | 305 => 103 | 306 => 104 | 307 => 105 | 308 => 106 | 309 => 107 | 310 => 108 | 333 => 118 | 329 => 119 | 330 => 120 | 334 => 121 | 335 => 122 | 336 => 123 | 344 => 129 | n => n, fun | 31 => 33 | 9 => 9 | 3 => 3 | 46 => 94 | 0 => 0 | 51 => 121 | 53 => 123 | 4 => 4 | 183 => 114 | 182 => 113 | 131 => 76 | 5 => 5 | 218 => 127 | 222 => 69 | 228 => 137 | 229 => 138 | n => n, fun | n => n⟩
theorem Tryz.lays190 : Go.Proofs.Lays.n190 Tryz.prog Tryz.lays190_ren := {
  mixed := by kernel_rfl
  f125 := Tryz.func68.trans (congrArg some (by kernel_rfl))
  f128 := Tryz.func109.trans (congrArg some (by kernel_rfl))
  f129 := Tryz.func110.trans (congrArg some (by kernel_rfl))
  f190 := Tryz.func38.trans (congrArg some (by kernel_rfl))
  f258 := Tryz.func67.trans (congrArg some (by kernel_rfl))
  f302 := Tryz.func100.trans (congrArg some (by kernel_rfl))
  f303 := Tryz.func101.trans (congrArg some (by kernel_rfl))
  f304 := Tryz.func102.trans (congrArg some (by kernel_rfl))
  f305 := Tryz.func103.trans (congrArg some (by kernel_rfl))
  f306 := Tryz.func104.trans (congrArg some (by kernel_rfl))
  f307 := Tryz.func105.trans (congrArg some (by kernel_rfl))
  f308 := Tryz.func106.trans (congrArg some (by kernel_rfl))
  f309 := Tryz.func107.trans (congrArg some (by kernel_rfl))
  f310 := Tryz.func108.trans (congrArg some (by kernel_rfl))
  f329 := Tryz.func119.trans (congrArg some (by kernel_rfl))
  f330 := Tryz.func120.trans (congrArg some (by kernel_rfl))
  f333 := Tryz.func118.trans (congrArg some (by kernel_rfl))
  f334 := Tryz.func121.trans (congrArg some (by kernel_rfl))
  f335 := Tryz.func122.trans (congrArg some (by kernel_rfl))
  f336 := Tryz.func123.trans (congrArg some (by kernel_rfl))
  f344 := Tryz.func129.trans (congrArg some (by kernel_rfl))
  t0 := Tryz.underlying0
  a0 := Tryz.isAgg0
  z0 := Tryz.sizeOf0
  v0 := Tryz.zeroValue0
  t3 := Tryz.underlying3
  a3 := Tryz.isAgg3
  z3 := Tryz.sizeOf3
  v3 := Tryz.zeroValue3
  t4 := Tryz.underlying4
  a4 := Tryz.isAgg4
  z4 := Tryz.sizeOf4
  v4 := Tryz.zeroValue4
  t5 := Tryz.underlying5
  a5 := Tryz.isAgg5
  z5 := Tryz.sizeOf5
  v5 := Tryz.zeroValue5
  t9 := Tryz.underlying9
  a9 := Tryz.isAgg9
  z9 := Tryz.sizeOf9
  v9 := Tryz.zeroValue9
  t31 := Tryz.underlying33
  a31 := Tryz.isAgg33
  z31 := Tryz.sizeOf33
  v31 := Tryz.zeroValue33
  t46 := Tryz.underlying94
  a46 := Tryz.isAgg94
  z46 := Tryz.sizeOf94
  v46 := Tryz.zeroValue94
  t51 := Tryz.underlying121
  a51 := Tryz.isAgg121
  z51 := Tryz.sizeOf121
  v51 := Tryz.zeroValue121
  t53 := Tryz.underlying123
  a53 := Tryz.isAgg123
  z53 := Tryz.sizeOf123
  v53 := Tryz.zeroValue123
  t131 := Tryz.underlying76
  a131 := Tryz.isAgg76
  z131 := Tryz.sizeOf76
  v131 := Tryz.zeroValue76
  t182 := Tryz.underlying113
  a182 := Tryz.isAgg113
  z182 := Tryz.sizeOf113
  v182 := Tryz.zeroValue113
  t183 := Tryz.underlying114
  a183 := Tryz.isAgg114
  z183 := Tryz.sizeOf114
  v183 := Tryz.zeroValue114
  t218 := Tryz.underlying127
  a218 := Tryz.isAgg127
  z218 := Tryz.sizeOf127
  v218 := Tryz.zeroValue127
  t222 := Tryz.underlying69
  a222 := Tryz.isAgg69
  z222 := Tryz.sizeOf69
  v222 := Tryz.zeroValue69
  t228 := Tryz.underlying137
  a228 := Tryz.isAgg137
  z228 := Tryz.sizeOf137
  v228 := Tryz.zeroValue137
  t229 := Tryz.underlying138
  a229 := Tryz.isAgg138
  z229 := Tryz.sizeOf138
  v229 := Tryz.zeroValue138 }
open Go.Sort Go.RowKit in
theorem Tryz.slices_Sort_string (blk off cap : Nat) (ss : List (List UInt8)) (w : World) (hH : Holds encStr w blk off ss.toArray) (hblk : blk < w.heap.size) (hsz : ss.length < 4611686018427387904) :
    Calls Tryz.prog 38 #[.slice (some ⟨blk, off, none⟩) ss.length cap] w fun e w' =>
      e = .returned (.tuple #[]) ∧ ∃ n os, w' = grow (putRow encStr (Sort.ahead w n) blk off (ss.mergeSort fun x y => decide (x ≤ y)).toArray) os := Any.slices_Sort_string Tryz.lays190 blk off cap ss w hH hblk hsz
def Tryz.lays193_ren : Go.Shelf.Ren := ⟨fun | 193 => 21 | n => n, fun | 31 => 33 | 9 => 9 | 4 => 4 | 3 => 3 | 0 => 0 | n => n, fun | n => n⟩
theorem Tryz.lays193 : Go.Proofs.Lays.n193 Tryz.prog Tryz.lays193_ren := {
  mixed := by kernel_rfl
  f193 := Tryz.func21.trans (congrArg some (by kernel_rfl))
  t0 := Tryz.underlying0
  a0 := Tryz.isAgg0
  z0 := Tryz.sizeOf0
  v0 := Tryz.zeroValue0
  t3 := Tryz.underlying3
  a3 := Tryz.isAgg3
  z3 := Tryz.sizeOf3
  v3 := Tryz.zeroValue3
  t4 := Tryz.underlying4
  a4 := Tryz.isAgg4
  z4 := Tryz.sizeOf4
  v4 := Tryz.zeroValue4
  t9 := Tryz.underlying9
  a9 := Tryz.isAgg9
  z9 := Tryz.sizeOf9
  v9 := Tryz.zeroValue9
  t31 := Tryz.underlying33
  a31 := Tryz.isAgg33
  z31 := Tryz.sizeOf33
  v31 := Tryz.zeroValue33 }
open Go.RowKit Go.Lib in
/-- slices.Equal at []string: "Equal reports whether two slices are equal: the same length and all elements equal. If the lengths are different, Equal returns false. Otherwise, the elements are compared in increasing index order, and the comparison stops at the first unequal pair. Empty and nil slices are considered equal.": IT RETURNS WHETHER THE TWO LISTS OF ELEMENTS ARE ONE; the world is as it was but for the count of draws (the test 's1[i] != s2[i]' has two reads, whose order the model draws, once a round). 'xs', 'ys': what the cells behind the two addresses hold (the spare capacity too, if you have it); 'xs.take n', 'ys.take m': the elements. THE TWO SLICES MAY OVERLAP. (LAID: no walk: one application.) -/
theorem Tryz.slices_Equal_string (b1 o1 n c b2 o2 m d : Nat) (xs ys : List ByteArray) (w : World) (hx : n ≤ xs.length) (hy : m ≤ ys.length) (hbig : n ≤ 9223372036854775807) (hbig2 : m ≤ 9223372036854775807) (hc1 : ∀ j, j < xs.length → w.cell? ⟨b1, o1 + j, none⟩ = some (.string (xs.getD j ByteArray.empty))) (hc2 : ∀ j, j < ys.length → w.cell? ⟨b2, o2 + j, none⟩ = some (.string (ys.getD j ByteArray.empty))) :
    Calls Tryz.prog 21 #[.slice (some ⟨b1, o1, none⟩) n c, .slice (some ⟨b2, o2, none⟩) m d] w fun e w' => e = .returned (.bool (decide (xs.take n = ys.take m))) ∧ ∃ q, w' = w.drewN q := Any.slices_Equal_string Tryz.lays193 b1 o1 n c b2 o2 m d xs ys w hx hy hbig hbig2 hc1 hc2
open Go.RowKit Go.Lib in
/-- The same where the first is of length 0 (a nil one too): no cell is asked for. (LAID: no walk: one application.) -/
theorem Tryz.slices_Equal_string_empty (a1 a2 : Option Addr) (c m d : Nat) (w : World) (hbig2 : m ≤ 9223372036854775807) :
    Calls Tryz.prog 21 #[.slice a1 0 c, .slice a2 m d] w fun e w' => e = .returned (.bool (decide (m = 0))) ∧ w' = w := Any.slices_Equal_string_empty Tryz.lays193 a1 a2 c m d w hbig2
def Tryz.lays194_ren : Go.Shelf.Ren := ⟨fun | 194 => 39 | n => n, fun | 31 => 33 | 9 => 9 | 3 => 3 | 4 => 4 | 0 => 0 | n => n, fun | n => n⟩
theorem Tryz.lays194 : Go.Proofs.Lays.n194 Tryz.prog Tryz.lays194_ren := {
  mixed := by kernel_rfl
  f194 := Tryz.func39.trans (congrArg some (by kernel_rfl))
  t0 := Tryz.underlying0
  a0 := Tryz.isAgg0
  z0 := Tryz.sizeOf0
  v0 := Tryz.zeroValue0
  t3 := Tryz.underlying3
  a3 := Tryz.isAgg3
  z3 := Tryz.sizeOf3
  v3 := Tryz.zeroValue3
  t4 := Tryz.underlying4
  a4 := Tryz.isAgg4
  z4 := Tryz.sizeOf4
  v4 := Tryz.zeroValue4
  t9 := Tryz.underlying9
  a9 := Tryz.isAgg9
  z9 := Tryz.sizeOf9
  v9 := Tryz.zeroValue9
  t31 := Tryz.underlying33
  a31 := Tryz.isAgg33
  z31 := Tryz.sizeOf33
  v31 := Tryz.zeroValue33 }
open Go.RowKit Go.Lib Go.Sort in
/-- slices.Compact at []string, over an array: the library's two loops are walked. (LAID: no walk: one application.) -/
theorem Tryz.slices_Compact_string_arr (blk off cap : Nat) (d : Array (List UInt8)) (w : World) (hH : Holds encStr w blk off d) (hsz : d.size ≤ 9223372036854775807) (hcap : d.size ≤ cap) :
    Calls Tryz.prog 39 #[.slice (some ⟨blk, off, none⟩) d.size cap] w fun e w' => e = .returned (.slice (some ⟨blk, off, none⟩) (compactUpTo d d.size).length cap) ∧ ∃ q, w' = putRow encStr (Sort.ahead w q) blk off (compactUpTo d d.size ++ List.replicate (d.size - (compactUpTo d d.size).length) []).toArray := Any.slices_Compact_string_arr Tryz.lays194 blk off cap d w hH hsz hcap
open Go.RowKit Go.Lib Go.Sort in
/-- slices.Compact at []string: "Compact replaces consecutive runs of equal elements with a single copy. This is like the uniq command found on Unix. Compact modifies the contents of the slice s and returns the modified slice, which may have a smaller length. Compact zeroes the elements between the new length and the original length. The result preserves the nilness of s.": IT RETURNS THE SLICE CUT TO 'Lib.compact zs'; ITS CELLS HOLD 'Lib.compact zs', THEN ZERO VALUES up to the old length; all else is as it was, but for the count of draws. IN THE WORDS OF slices.Sort's CONTRACT ('Holds', 'putRow'): so the everyday 'slices.Sort(xs); xs = slices.Compact(xs)' goes from the one contract to the other. It asks 'zs.length ≤ cap' (every slice's: the reslicing 's[:k]' looks at it). Length 0, nil: '.._empty'. (LAID: no walk: one application.) -/
theorem Tryz.slices_Compact_string (blk off cap : Nat) (zs : List (List UInt8)) (w : World) (hH : Holds encStr w blk off zs.toArray) (hsz : zs.length ≤ 9223372036854775807) (hcap : zs.length ≤ cap) :
    Calls Tryz.prog 39 #[.slice (some ⟨blk, off, none⟩) zs.length cap] w fun e w' => e = .returned (.slice (some ⟨blk, off, none⟩) (Lib.compact zs).length cap) ∧ ∃ q, w' = putRow encStr (Sort.ahead w q) blk off (Lib.compact zs ++ List.replicate (zs.length - (Lib.compact zs).length) []).toArray := Any.slices_Compact_string Tryz.lays194 blk off cap zs w hH hsz hcap
open Go.RowKit Go.Lib Go.Sort in
/-- The same at a slice of length 0, a nil one too: it comes back as it is. (LAID: no walk: one application.) -/
theorem Tryz.slices_Compact_string_empty (a : Option Addr) (cap : Nat) (w : World) :
    Calls Tryz.prog 39 #[.slice a 0 cap] w fun e w' => e = .returned (.slice a 0 cap) ∧ w' = w := Any.slices_Compact_string_empty Tryz.lays194 a cap w
open Go.RowKit Go.Lib Go.Sort in
/-- slices.Compact at []string, of an argument. (LAID: no walk: one application.) -/
theorem Tryz.slices_Compact_string_cells (b off n c : Nat) (Sx : Nat → ByteArray) (w : World) (hbig : n ≤ 9223372036854775807) (hcap : n ≤ c) (hc : ∀ i, i < n → w.cell? ⟨b, off + i, none⟩ = some (.string (Sx i))) (hf : ∀ j, j < n → w.frozen? ⟨b, off + j, none⟩ = false) :
    Calls Tryz.prog 39 #[.slice (some ⟨b, off, none⟩) n c] w fun e w' => e = .returned (.slice (some ⟨b, off, none⟩) (Lib.compact (Lib.strsOf Sx n)).length c) ∧ ∃ q, w' = (w.drewN q).setCells b off ((Lib.compact (Lib.strsOf Sx n) ++ List.replicate (n - (Lib.compact (Lib.strsOf Sx n)).length) []).map encStr) := Any.slices_Compact_string_cells Tryz.lays194 b off n c Sx w hbig hcap hc hf
open Go.RowKit Go.Sort in
/-- .. and plain. (LAID: no walk: one application.) -/
theorem Tryz.slices_Sort_string_none (p : Option Addr) (cap : Nat) (w : World) :
    Calls Tryz.prog 38 #[.slice p 0 cap] w fun e w' => e = .returned (.tuple #[]) ∧ w' = w := Any.slices_Sort_string_none Tryz.lays190 p cap w
open Go.RowKit Go.Lib in
theorem Tryz.slices_Equal_string_lens (a1 a2 : Option Addr) (n c m d : Nat) (w : World) (hnm : n ≠ m) :
    Calls Tryz.prog 21 #[.slice a1 n c, .slice a2 m d] w fun e w' => e = .returned (.bool false) ∧ w' = w := Any.slices_Equal_string_lens Tryz.lays193 a1 a2 n c m d w hnm
end Go.Proofs

namespace Go.Proofs.YtgkalcboklhdgaaGreatDoor
open Go.RowKit
set_option linter.unusedVariables false
set_option linter.unusedSimpArgs false

theorem grownBy_refl (w : World) (row : Option Nat) : w.grownBy w row := ⟨rfl, rfl, rfl, Nat.le_refl _, fun _ _ _ => rfl⟩
theorem grownBy_put {w : World} {g q : Nat} (d : Array (List UInt8)) : w.grownBy (Go.Sort.putRow encStr (Go.Sort.ahead w q) g 0 d) (some g) := by
  have h := grownBy_sorted (w := w) (g := g) (n := q) (os := #[]) d
  rwa [Go.Sort.grow_empty] at h
theorem Sort_row {base : Nat} {v : Value} {l : List (List UInt8)} {w : World} (h : RowS base v l w) (hl : l.length ≤ 1000000000) :
    Calls Tryz.prog 38 #[v] w fun e w' => e = .returned (.tuple #[]) ∧ RowS base v (l.mergeSort fun x y => decide (x ≤ y)) w' ∧ w.grownBy w' v.ownBlock := by
  rcases h.2 with ⟨rfl, h0⟩ | ⟨g, cap, cur, rfl, hb, hg, hn, hm, hs, ht⟩
  · obtain rfl := List.eq_nil_of_length_eq_zero h0
    refine (Tryz.slices_Sort_string_none none 0 w).mono ?_
    rintro e w' ⟨rfl, rfl⟩
    exact ⟨rfl, by rw [List.mergeSort_nil]; exact RowS.nil _ _, grownBy_refl _ _⟩
  · refine (Tryz.slices_Sort_string g 0 cap l w (holds_of_block hg (by have t := ht; rw [Nat.mul_one] at t; exact t)) (lt_of_block hg) (by omega)).mono ?_
    rintro e w' ⟨rfl, n, os, rfl⟩
    refine ⟨rfl, ?_, grownBy_sorted _⟩
    have h := ownsRow_sorted (n := n) (os := os) (ts := l.mergeSort fun x y => decide (x ≤ y)) (List.length_mergeSort l) hb hg hn hm hs
    unfold RowS
    rw [List.length_mergeSort]
    exact h
theorem Compact_row {base : Nat} {v : Value} {l : List (List UInt8)} {w : World} (h : RowS base v l w) (hl : l.length ≤ 1000000000) :
    Calls Tryz.prog 39 #[v] w fun e w' => ∃ v', e = .returned v' ∧ RowS base v' (Lib.compact l) w' ∧ w.grownBy w' v.ownBlock := by
  rcases h.2 with ⟨rfl, h0⟩ | ⟨g, cap, cur, rfl, hb, hg, hn, hm, hs, ht⟩
  · obtain rfl := List.eq_nil_of_length_eq_zero h0
    refine (Tryz.slices_Compact_string_empty none 0 w).mono ?_
    rintro e w' ⟨rfl, rfl⟩
    exact ⟨_, rfl, RowS.nil _ _, grownBy_refl _ _⟩
  · refine (Tryz.slices_Compact_string g 0 cap l w (holds_of_block hg (by have t := ht; rw [Nat.mul_one] at t; exact t)) (by omega) hn).mono ?_
    rintro e w' ⟨rfl, q, rfl⟩
    refine ⟨_, rfl, ?_, grownBy_put _⟩
    have hc := Lib.compact_length_le l
    have h' := Lib.ownsRow_putRow (enc := encStr) (q := q) (k := (Lib.compact l).length) (ys := Lib.compact l ++ List.replicate (l.length - (Lib.compact l).length) []) h (by simp; omega) hc
    rw [List.take_left] at h'
    exact h'
theorem keepT_grown {W W' : World} {base n : Nat} {v : Value} {xs : List Value} (h : W.ownsRow base 9 1 v n xs) (hg : W.grownBy W' v.ownBlock) : KeepT tEx W W' := by
  refine ⟨hg.size, fun j c f hx => (hg.block j (lt_of_block hx) fun e => ?_).trans hx⟩
  rcases h.2 with ⟨rfl, _⟩ | ⟨g, cap, cur, rfl, _, hgb, _⟩
  · simp [Value.ownBlock] at e
  · obtain rfl : j = g := by simpa [Value.ownBlock] using e
    rw [hgb] at hx
    simp at hx
    exact absurd hx.2.1 (by decide)
theorem keepT_box {W : World} {A : Nat} {v u : Value} (h : Boxed W A 33 v) : KeepT tEx W (W.setCell ⟨A, 0, none⟩ u) := by
  refine ⟨by simp [World.setCell], fun j c f hx => ?_⟩
  have hne : A ≠ j := fun e => by
    subst e
    have := (show W.heap[A]? = _ from h).symm.trans hx
    simp at this
    exact absurd this.2.1 (by decide)
  exact (Below.heap_setCell _ _ _ _ (fun e => hne e.symm)).trans hx
theorem row_cells {W : World} {base n : Nat} {e : TypeId} {v : Value} {xs : List Value} (h : W.ownsRow base e 1 v n xs) : ∀ (j : Nat) (o : Obj), v.ownBlock = some j → W.heap[j]? = some o → o.isCells = true := by
  intro j o ej hj
  rcases h.2 with ⟨rfl, _⟩ | ⟨g, cap, cur, rfl, _, hgb, _⟩
  · simp [Value.ownBlock] at ej
  · obtain rfl : g = j := by simpa [Value.ownBlock] using ej
    rw [hgb] at hj; cases hj; rfl
theorem row_ne {W : World} {base n : Nat} {e : TypeId} {v : Value} {xs : List Value} {D : Nat} {o : Option (List Deferred)} (h : W.ownsRow base e 1 v n xs) (hD : W.heap[D]? = some (.deferred o)) : v.ownBlock = none ∨ v.ownBlock ≠ some D := by
  right
  intro e1
  have := row_cells h D _ e1 hD
  cases this
theorem nmP_len : ∀ l : List PEx, (nmP l).length ≤ l.length
  | [] => by simp [nmP]
  | d :: l => by
    have := nmP_len l
    simp only [nmP, List.length_append, List.length_cons]
    split <;> simp <;> omega

end Go.Proofs.YtgkalcboklhdgaaGreatDoor

namespace Go.Proofs.YtgkalcboklhdgaaGreatDoor
open Go.RowKit
set_option linter.unusedVariables false
set_option linter.unusedSimpArgs false
open Ex

/-- the table of powers of ten stands -/
def TabW (w : World) : Prop := Lib.TabIs Tryz.prog w "internal/strconv.uint64pow10" .u64 Lib.pow10Tab
theorem TabW.below {w W : World} (h : TabW w) (hb : Below w.heap.size w W) : TabW W := by
  unfold TabW Lib.TabIs World.var? at h ⊢
  cases hg : Tryz.prog.globalNamed "internal/strconv.uint64pow10" with
  | none => rw [hg] at h; cases h
  | some g =>
    rw [hg] at h
    simp only [Option.bind_some] at h ⊢
    have hlt : g < w.heap.size := by
      rcases Nat.lt_or_ge g w.heap.size with h' | h'
      · exact h'
      · rw [Array.getElem?_eq_none h'] at h; cases h
    rw [hb.block g hlt]
    exact h
theorem ext_grow (w : World) (k : Nat) (os : Array Obj) : Ext w (Go.Sort.grow (w.drewN k) os) :=
  ⟨rfl, rfl, rfl, by simp [Go.Sort.grow], fun j hj => by rw [Go.Sort.heap_grow_old _ _ (by simpa using hj)]; simp⟩
theorem Itoa_gen {w : World} (hT : TabW w) (v : Int) (W : World) (hv : 0 ≤ v ∧ v ≤ 1099511627776) (hb : Below w.heap.size w W) :
    Calls Tryz.prog 61 #[.int .i64 v] W fun r w' => r = .returned (sV (decI v)) ∧ Ext W w' := by
  refine (Tryz.strconv_Itoa v (by omega) (by omega) W (hT.below hb)).mono ?_
  rintro e w' ⟨rfl, k, os, rfl⟩
  refine ⟨?_, ext_grow _ _ _⟩
  unfold decI Lib.itoa
  rw [if_neg (by omega)]
  rfl
theorem PrintZ_any (e : Ex) (p : Option Addr) (c : Nat) (w : World) (hT : TabW w) (hA : Ex.At w p e) :
    Gives Tryz.prog 9 #[e.val p c] w (.tuple #[sV (prR decI e).1, .int .i64 (prR decI e).2]) :=
  Print_any (fun v => 0 ≤ v ∧ v ≤ 1099511627776) decI (fun W => Below w.heap.size w W) (fun v W hv hW => Itoa_gen hT v W hv hW) e
    (fun h => ⟨nums_of e (chk_zero h).2.2, txt_le h⟩) p c w (fun B hB W W' h hK => hK.trans (h.mono hB)) (Below.refl _ _) hA
/-- slices.Equal of two rows that hold the same -/
theorem Equal_row {b1 b2 : Nat} {v1 v2 : Value} {l : List (List UInt8)} {w : World} (h1 : RowS b1 v1 l w) (h2 : RowS b2 v2 l w) (hl : l.length ≤ 1000000000) :
    Gives Tryz.prog 21 #[v1, v2] w (.bool true) := by
  unfold Gives
  by_cases h0 : l.length = 0
  · obtain ⟨x1, c1, rfl, _⟩ := h1.strs
    obtain ⟨x2, c2, rfl, _⟩ := h2.strs
    rw [h0]
    refine (Tryz.slices_Equal_string_empty x1 x2 c1 0 c2 w (by omega)).mono ?_
    rintro e w' ⟨rfl, rfl⟩
    exact ⟨rfl, Below.refl _ _⟩
  · rcases h1.forms with ⟨_, e⟩ | ⟨g1, c1, rfl⟩
    · exact absurd e h0
    rcases h2.forms with ⟨_, e⟩ | ⟨g2, c2, rfl⟩
    · exact absurd e h0
    have hc : ∀ (b g c : Nat), RowS b (.slice (some ⟨g, 0, none⟩) l.length c) l w → ∀ j, j < (l.map sB).length → w.cell? ⟨g, 0 + j, none⟩ = some (.string ((l.map sB).getD j ByteArray.empty)) := by
      intro b g c h j hj
      have hj' : j < l.length := by simpa using hj
      rw [Nat.zero_add, World.ownsRow.cellAt h j (by omega)]
      simp [List.getD, hj', sV, sB]
    refine (Tryz.slices_Equal_string g1 0 l.length c1 g2 0 l.length c2 (l.map sB) (l.map sB) w (by simp) (by simp) (by omega) (by omega) (hc _ _ _ h1) (hc _ _ _ h2)).mono ?_
    rintro e w' ⟨rfl, q, rfl⟩
    refine ⟨by simp, ?_⟩
    have h := ext_grow w q #[]
    rwa [Go.Sort.grow_empty] at h

end Go.Proofs.YtgkalcboklhdgaaGreatDoor

namespace Go.Proofs.YtgkalcboklhdgaaGreatDoor
open Go.RowKit
set_option linter.unusedVariables false
set_option linter.unusedSimpArgs false
attribute [local go_sem] Oper.semAt_some
open Ex

set_option maxRecDepth 100000 in
set_option maxHeartbeats 4000000 in
theorem Names_any (e : Ex) (p : Option Addr) (c : Nat) (w : World) (hA : Ex.At w p e) :
    Calls Tryz.prog 11 #[e.val p c] w fun e' w' => ∃ v', e' = .returned v' ∧ RowS w.heap.size v' (nmR e) w' ∧ Ext w w' := by
  have C1 := Lib.hid (fun W (h : Ext w W) => show Gives _ _ #[.agg #[.int .i64 e.kind, .int .i64 e.op, sV e.name, .int .i64 e.value, .slice p e.args.length c]] _ _ from Check_any e p c W (hA.below h))
  have HN := Lib.hid (show e.chk ≠ 0 → nmR e = [] from fun h => by unfold nmR; rw [if_pos h])
  obtain ⟨d, hd1, hd2, hd3, hP⟩ := PEx.of_at c hA
  have HZ := Lib.hid (show e.chk = 0 → Lib.compact ((nmP d.pre).mergeSort fun x y => decide (x ≤ y)) = nmR e ∧ d.pre.length ≤ 100 from fun h => by
    obtain ⟨h1, h2, h3⟩ := chk_zero h
    refine ⟨?_, by rw [PEx.pre_length, hd1]; exact h1⟩
    rw [nmP_pre d (by rw [hd1]; exact h3), hd1, sorted_eq]
    unfold nmR
    rw [if_neg (by simp [h])])
  have HST := Lib.hid (fun n B W h1 h2 h3 => show SeqStopsK Fence.wide n Tryz.prog 65 #[.pointer (some ⟨B, 0, none⟩)] (fun x : Pt => #[x.1.val]) (Kx w.heap.size) (fun ys => ys.map (·.1) = d.pre) (fun ys => ys.map (·.1) <+: d.pre) d.pre.length W from
    parts_stops Fence.wide rfl n trivial trivial rfl B w.heap.size d W h1 h2 h3)
  rw [hd2, hd3, hd1] at HST
  have HP := Lib.hid hP
  have hv : e.val p c = .agg #[.int .i64 e.kind, .int .i64 e.op, sV e.name, .int .i64 e.value, .slice p e.args.length c] := rfl
  rw [hv]
  clear hv hd1 hP
  generalize nmR e = R at *
  generalize e.chk = r at *
  generalize d.pre = P1 at *
  generalize e.kind = k1 at *
  generalize e.op = o1 at *
  generalize e.name = n1 at *
  generalize e.value = v1 at *
  generalize e.args.length = l1 at *
  have HA1 := Lib.hid (show Ext w (w.alloc (.cells #[.int .i64 k1, .int .i64 o1, sV n1, .int .i64 v1, .slice p l1 c] 24)) from (Below.refl _ w).alloc (Nat.le_refl _) _)
  obtain ⟨i0, hi, hz0, hz1, hz2⟩ := info_parts infoS'
  refine (callsIn_wide (n := 9)).1 ?_
  refine callsIn_of_wp_marks Tryz.func11 rfl trivial ?_ rfl
  simp only [Tryz.ntmps11, List.size_toArray, List.length_cons, List.length_nil, Nat.reduceAdd, Nat.reduceSub, Array.replicate_succ, Array.replicate_zero, List.push_toArray, List.append_toArray, List.nil_append, List.cons_append]
  gi_wp2_with (fail)
  refine ⟨trivial, callsIn_wide.2 (Calls.mono (C1.out _ HA1.out) ?_)⟩
  rintro x W1 ⟨rfl, hE1⟩
  have hbE : W1.heap[w.heap.size]? = some (.cells (exC k1 o1 n1 v1 p l1 c) tEx (0, 0)) := (hE1.block _ (by simp)).trans (alloc_here _ _)
  have hW1 : Ext w W1 := Ext.trans HA1.out hE1
  have hbE2 : (W1.alloc (.cells #[.slice none 0 0] 33)).heap[w.heap.size]? = _ := (Below.heap_alloc _ _ _ (lt_of_block hbE)).trans hbE
  have b0 : (W1.alloc (.cells #[.slice none 0 0] 33)).cell? ⟨w.heap.size, 0, none⟩ = some (.int .i64 k1) := cell_of hbE2 rfl
  have b1 : (W1.alloc (.cells #[.slice none 0 0] 33)).cell? ⟨w.heap.size, 1, none⟩ = some (.int .i64 o1) := cell_of hbE2 rfl
  have b2 : (W1.alloc (.cells #[.slice none 0 0] 33)).cell? ⟨w.heap.size, 2, none⟩ = some (sV n1) := cell_of hbE2 rfl
  have b3 : (W1.alloc (.cells #[.slice none 0 0] 33)).cell? ⟨w.heap.size, 3, none⟩ = some (.int .i64 v1) := cell_of hbE2 rfl
  have b4 : (W1.alloc (.cells #[.slice none 0 0] 33)).cell? ⟨w.heap.size, 4, none⟩ = some (.slice p l1 c) := cell_of hbE2 rfl
  have HW1 := Lib.hid hW1
  clear hbE hbE2 hW1 hE1 C1 HA1
  by_cases hr : r = 0
  · subst hr
    have HZ0 := Lib.hid (HZ.out rfl)
    clear HN HZ
    gi_wp2_with (fail)
    refine ⟨trivial, callsIn_wide.2 ((xparts_any _ _ _ _ _ _ _ _).mono ?_)⟩
    rintro x W3 ⟨B2, rfl, hb3, hE3⟩
    have hA3 : Boxed W3 W1.heap.size 33 (.slice none 0 0) := (hE3.block _ (by simp)).trans (alloc_here _ _)
    have hW3 : Ext w W3 := Below.trans HW1.out ((Below.alloc (Below.refl _ W1) (Nat.le_refl _) (.cells #[.slice none 0 0] 33)).trans (hE3.mono (by simp)) |>.mono HW1.out.size)
    have hP3 := HP.out.low hW3
    have hn1 : w.heap.size ≤ W1.heap.size := HW1.out.size
    have hn3 : w.heap.size ≤ W3.heap.size := hW3.size
    generalize W1.heap.size = A at *
    clear b0 b1 b2 b3 b4 HW1 hE3
    gi_wp2_with (fail)
    refine wpIn_rangeFunc_ownH rfl (by omega) (gf := 65) (lb := #[.pointer (some ⟨B2, 0, none⟩)]) rfl trivial (enters_fn Tryz.func65 (by kernel_rfl) rfl)
      (encs := fun x : Pt => #[(.agg #[.int .i64 x.1.er.kind, .int .i64 x.1.er.op, sV x.1.er.name, .int .i64 x.1.er.value, .slice x.1.ptr x.1.er.args.length x.1.cap])]) (HST.out 8 B2 W3 hn3 hb3 hP3) Kx.trans (Kx.putObj hn3) (Below.refl _ _) (fun _ => rfl)
      (fun ys W => (∃ v, Boxed W A 33 v ∧ W.ownsRow w.heap.size 9 1 v (nmP (ys.map (·.1))).length ((nmP (ys.map (·.1))).map sV) ∧ True) ∧ Below w.heap.size w W)
      (fun _ _ _ => False)
      (OwnFrom.and (Own.from (holdsRow_own w.heap.size A 33 9 1 (fun (ys : List Pt) => (nmP (ys.map (·.1))).length) (fun (ys : List Pt) => (nmP (ys.map (·.1))).map sV) (fun pre v => True)) _) (ownFrom_below (Nat.le_refl _) hn3))
      (fun _ _ _ _ _ hs _ _ => hs)
      ⟨⟨_, hA3, World.ownsRow_nil _ _ _ _, trivial⟩, hW3⟩
      (fun x a' W => ∃ Bx, W.heap[Bx]? = some (.cells (exC x.1.er.kind x.1.er.op x.1.er.name x.1.er.value x.1.ptr x.1.er.args.length x.1.cap) tEx (0, 0)) ∧ a' = { tmps := #[(.agg #[.int .i64 k1, .int .i64 o1, sV n1, .int .i64 v1, .slice p l1 c]), .pointer (some ⟨w.heap.size, 0, none⟩), .slice none 0 0, .pointer (some ⟨A, 0, none⟩), .pointer (some ⟨Bx, 0, none⟩), (.agg #[.int .i64 k1, .int .i64 o1, sV n1, .int .i64 v1, .slice p l1 c]), .int .i64 0, .bool false, (.agg #[.int .i64 k1, .int .i64 o1, sV n1, .int .i64 v1, .slice p l1 c]), .func (.func 65) #[] #[.pointer (some ⟨B2, 0, none⟩)], (.agg #[.int .i64 x.1.er.kind, .int .i64 x.1.er.op, sV x.1.er.name, .int .i64 x.1.er.value, .slice x.1.ptr x.1.er.args.length x.1.cap]), undef, undef, undef, undef, undef, undef, undef, undef, undef, undef, undef, undef], defers := [] })
      (fun x a' _ X Y row hs hg hr => by obtain ⟨Bx, h1, h3⟩ := hs; exact ⟨Bx, cells_own h1 hg (fun r e => (hr r e).2), h3⟩)
      ?assign ?body ?done ?stop
    case assign =>
      rintro l ys x W K ⟨⟨v, h1, h2, _⟩, h3⟩ hK
      have hw := h3.size
      generalize x.1.er.kind = k2 at *
      generalize x.1.er.op = o2 at *
      generalize x.1.er.name = n2 at *
      generalize x.1.er.value = v2 at *
      generalize x.1.er.args.length = l2 at *
      generalize x.1.ptr = q2 at *
      generalize x.1.cap = c2 at *
      gi_wp2
      exact hK _ _ ((KeepsOthers.alloc _ _).from _) (Kx.of_ext ((Below.refl _ W).alloc (Nat.le_refl _) _) hw) ⟨⟨_, h1.alloc _, h2.alloc _, trivial⟩, h3.alloc hw _⟩ ⟨W.heap.size, alloc_here _ _, rfl⟩
    case body =>
      rintro l ys x a' W hl ⟨rr, hr⟩ ⟨⟨v, h1, h2, _⟩, h3⟩ ⟨Bx, hbx, rfl⟩ hlt
      have hw := h3.size
      have HF := Lib.hid (show nmP ((ys ++ [x]).map (·.1)) = nmP (ys.map (·.1)) ++ (if x.1.er.kind = 2 then [x.1.er.name] else []) from by rw [List.map_append, nmP_app]; simp [nmP])
      have hlen : (nmP (ys.map (·.1))).length ≤ 100 := by
        have a1 := nmP_len (ys.map (·.1))
        rw [List.length_map] at a1
        have a2 := HZ0.out.2
        omega
      generalize nmP (ys.map (·.1)) = L1 at *
      generalize x.1.er.kind = k2 at *
      generalize x.1.er.op = o2 at *
      generalize x.1.er.name = n2 at *
      generalize x.1.er.value = v2 at *
      generalize x.1.er.args.length = l2 at *
      generalize x.1.ptr = q2 at *
      generalize x.1.cap = c2 at *
      have b0 : W.cell? ⟨Bx, 0, none⟩ = some (.int .i64 k2) := cell_of hbx rfl
      have b2 : W.cell? ⟨Bx, 2, none⟩ = some (sV n2) := cell_of hbx rfl
      by_cases hk : k2 = 2
      · subst hk
        have HF2 := Lib.hid (show nmP ((ys ++ [x]).map (·.1)) = L1 ++ [n2] from HF.out)
        clear HF
        have hc := h1.cell
        gi_wp2_with (gi_at_builtin; go_must (refine wpListIn_append_own _ rfl _ _ 33 rfl w.heap.size 9 i0 (sV []) 1 16 Tryz.underlying33 hi hz0 hz1 hz2 rfl (by decide) v L1.length (L1.map sV) rfl (h2.alloc _) ⟨W.heap.size, 0, none⟩ 1 1 [sV n2] rfl rfl (cell_one_new _ _ _) (by simp [Value.oneCell']) (by unfold maxLen; omega) (by omega) (by simp; omega) ?_); intro v' w1 hown' hgrow _; go_must (obtain ⟨g', cap', rfl⟩ := ownsRow_succ hown'); go_must (obtain ⟨hv1, hv2, hr2, hk2, hb2⟩ := h1.appended (by decide) h2 (by omega) (by omega) hown' hgrow); have hc1 := hv1.cell; have hf1 := hv1.frozen; go_must (have HK1 := Lib.hid (keepT_grown (h2.alloc _) hgrow)); go_must (have HK2 := Lib.hid (keepT_box (u := .slice (some ⟨g', 0, none⟩) (L1.length + 1) cap') hv1)))
        have hKK := ((KeepT.of_ext (T := tEx) ((Below.refl _ W).alloc (Nat.le_refl _) (.cells #[sV n2] 9))).trans HK1.out).trans HK2.out
        exact ⟨hk2.from _, ⟨hb2, hKK⟩, ⟨_, hv2, by rw [HF2.out]; simpa using hr2, trivial⟩, h3.trans hb2⟩
      · have hk1 : (k2 == 2) = false := by simpa using hk
        have HF2 := Lib.hid (show nmP ((ys ++ [x]).map (·.1)) = L1 by rw [HF.out, if_neg hk, List.append_nil])
        clear hk HF
        gi_wp2
        exact ⟨KeepsFrom.refl _ _, Kx.refl _ _, ⟨_, h1, by rw [HF2.out]; exact h2, trivial⟩, h3⟩
    case done =>
      rintro D ys W hD hys ⟨⟨v, h1, h2, _⟩, h3⟩ hK
      have hys' : ys.map (·.1) = P1 := hys
      rw [hys'] at h2
      clear hys hys'
      have hw := h3.size
      have hlen : (nmP P1).length ≤ 1000000000 := by
        have a1 := nmP_len P1
        have a2 := HZ0.out.2
        omega
      have hc := h1.cell
      have CS := Sort_row (base := w.heap.size) (v := v) (l := nmP P1) (w := W) h2 hlen
      gi_wp2_with (fail)
      refine ⟨trivial, callsIn_wide.2 (CS.mono ?_)⟩
      rintro x W4 ⟨rfl, hr4, hg4⟩
      have h14 : Boxed W4 A 33 v := h1.kept hg4 (h1.not_row (by decide) h2)
      have hc4 := h14.cell
      have hB4 : Below w.heap.size w W4 := h3.grown hg4 hw (fun k e => (World.ownsRow.lt h2 k e).1)
      have hK4 := (KeepsOthers.of_grownBy hg4 (row_cells h2)).same D _ hK rfl
      have CC := Compact_row (base := w.heap.size) (v := v) hr4 (by rw [List.length_mergeSort]; exact hlen)
      clear hc
      gi_wp2_with (fail)
      refine ⟨trivial, callsIn_wide.2 (CC.mono ?_)⟩
      rintro x W5 ⟨v', rfl, hr5, hg5⟩
      have hB5 : Below w.heap.size w W5 := hB4.grown hg5 hB4.size (fun k e => (World.ownsRow.lt hr4 k e).1)
      have hK5 := (KeepsOthers.of_grownBy hg5 (row_cells hr4)).same D _ hK4 rfl
      rw [HZ0.out.1] at hr5
      clear hc4
      gi_wp2
      refine ⟨by simp, .inl ⟨_, _, rfl, run_takeDeferred hK5, ?_⟩⟩
      refine ⟨_, results_tmp rfl _ _ _, v', rfl, hr5.kept (grownBy_putObj' _ D (.deferred none)) (row_ne hr5 hK5), hB5.trans (belowK_b (w := w) (Nat.le_refl _) _ D _ _ (by omega) hK5 rfl rfl)⟩
    case stop =>
      rintro D cd ys W hD hys h hK
      exact h.elim
  · have hr1 : (r == 0) = false := by simpa using hr
    have hr2 : (r != 0) = true := by simpa using hr
    have HR := Lib.hid (HN.out hr)
    clear hr HZ HN HST HP
    gi_wp2
    exact ⟨_, results_tmp rfl _ _ _, _, rfl, by rw [HR.out]; exact RowS.nil _ _, HW1.out⟩

end Go.Proofs.YtgkalcboklhdgaaGreatDoor

namespace Go.Proofs.YtgkalcboklhdgaaGreatDoor
open Go.RowKit
set_option linter.unusedVariables false
set_option linter.unusedSimpArgs false
open Ex

/-- these bindings are many, or a name is long -/
def gbs (bs : List Bn) : Bool := (bs.take 70).any (fun b => decide (40 < b.name.length)) || decide (70 < bs.length)
theorem gbs_hit {bs : List Bn} {j : Nat} (hj : j < bs.length) (h7 : j < 70) (h : 40 < (bs[j]).name.length) : gbs bs = true := by
  unfold gbs
  have : (bs.take 70).any (fun b => decide (40 < b.name.length)) = true := by
    rw [List.any_eq_true]
    have hl : j < (bs.take 70).length := by simp; omega
    refine ⟨(bs.take 70)[j], List.getElem_mem hl, ?_⟩
    rw [List.getElem_take]; simpa using h
  rw [this]; rfl
theorem gbs_end {bs : List Bn} (h : ∀ i (hi : i < bs.length), i < 70 → ¬ 40 < (bs[i]).name.length) : gbs bs = decide (70 < bs.length) := by
  unfold gbs
  have : (bs.take 70).any (fun b => decide (40 < b.name.length)) = false := by
    rw [List.any_eq_false]
    intro x hx
    obtain ⟨i, hi, rfl⟩ := List.getElem_of_mem hx
    rw [List.getElem_take]
    have h1 : i < bs.length := by simp at hi; omega
    have h2 : i < 70 := by simp at hi; omega
    simpa using h i h1 h2
  rw [this]; rfl

set_option maxRecDepth 100000 in
set_option maxHeartbeats 2000000 in
theorem GreatBindings_any (bs : List Bn) (p : Option Addr) (c : Nat) (w : World) (hA : BAt w p bs) : Gives Tryz.prog 7 #[.slice p bs.length c] w (.bool (gbs bs)) := by
  have hl := hA.1.1
  have HH := Lib.hid (fun j hj h7 h => gbs_hit (bs := bs) (j := j) hj h7 h)
  have HN := Lib.hid (fun h => gbs_end (bs := bs) h)
  have HA := Lib.hid hA
  clear hA
  generalize gbs bs = r at *
  unfold Gives
  go_enter Tryz.func7, Tryz.ntmps7
  go_wp2
  go_loopw [3] (fun i wr => ∃ j : Nat, j ≤ bs.length ∧ j ≤ 70 ∧ i = .int .i64 (j : Int) ∧ (∀ i (hi : i < bs.length), i < j → ¬ 40 < (bs[i]).name.length) ∧ wr = w) (fun i _ => bs.length - (intOf i).toNat)
  case atStart => exact ⟨0, Nat.zero_le _, by omega, rfl, fun i _ h => by omega, rfl⟩
  case round =>
    obtain ⟨j, hj, hj7, rfl, hk, rfl⟩ := hrel
    have HK := Lib.hid hk
    clear hk
    by_cases hlt : j < bs.length
    · by_cases h7 : j < 70
      · obtain ⟨b, off, rfl, hcs⟩ := HA.out.2 j hlt
        obtain ⟨c0, c1, c2⟩ := hcs
        have hft := (HA.out.1.2 _ (List.getElem_mem hlt)).1
        have hh := Lib.hid (HH.out j hlt h7)
        have hn := Lib.hid (show ¬ 40 < (bs[j]).name.length → ∀ i (hi : i < bs.length), i < j + 1 → ¬ 40 < (bs[i]).name.length from fun h i hi hij => by
          by_cases e : i = j
          · subst e; exact h
          · exact HK.out i hi (by omega))
        generalize hnm : (bs[j]).name = nm at *
        clear hnm c1 c2
        by_cases hg : 40 < nm.length
        · have HR := Lib.hid (hh.out hg)
          go_wp2
          go_ret
          exact ⟨by rw [HR.out]; rfl, Below.refl _ _⟩
        · have HR := Lib.hid (hn.out hg)
          go_wp2
          go_roundw
          case rel => exact ⟨j + 1, by omega, by omega, by go_num, HR.out, by first | trivial | rfl⟩
          case measure => simp [intOf]; omega
      · have HE := Lib.hid (HN.out (fun i hi h => HK.out i hi (by omega)))
        go_wp2
        go_ret
        exact ⟨by rw [HE.out]; simp; omega, Below.refl _ _⟩
    · have HE := Lib.hid (HN.out (fun i hi h => HK.out i hi (by omega)))
      go_wp2
      go_ret
      exact ⟨by rw [HE.out]; simp; omega, Below.refl _ _⟩

end Go.Proofs.YtgkalcboklhdgaaGreatDoor

