/- The kit's contracts of strings.Builder at this seat's numbers; printed by mk_build.py. -/
import Derived.Shelf.Strings.Builder1
import Derived.Test.YtfkjokbhnblndaaDoorBase
import Derived.Test.YtfkjokbhnblndaaDoorInteger
namespace Go.Proofs.YtfkjokbhnblndaaDoor
open Go.RowKit Go.Shelf
set_option linter.unusedVariables false

def bren : Ren := ⟨fun | 166 => 67 | 167 => 66 | 169 => 41 | 240 => 92 | 276 => 107 | n => n, fun | 0 => 0 | 3 => 3 | 4 => 4 | 5 => 5 | 9 => 9 | 20 => 20 | 37 => 66 | 70 => 65 | 72 => 68 | 75 => 104 | 80 => 78 | 127 => 108 | 164 => 129 | n => n, fun | n => n⟩
theorem bl166 : Go.Proofs.Lays.n166 Tryd.prog bren := {
  mixed := by kernel_rfl
  f166 := Tryd.func67.trans (congrArg some (by kernel_rfl))
  f240 := Tryd.func92.trans (congrArg some (by kernel_rfl))
  f276 := Tryd.func107.trans (congrArg some (by kernel_rfl))
  t0 := Tryd.underlying0
  a0 := Tryd.isAgg0
  z0 := Tryd.sizeOf0
  v0 := Tryd.zeroValue0
  t3 := Tryd.underlying3
  a3 := Tryd.isAgg3
  z3 := Tryd.sizeOf3
  v3 := Tryd.zeroValue3
  t4 := Tryd.underlying4
  a4 := Tryd.isAgg4
  z4 := Tryd.sizeOf4
  v4 := Tryd.zeroValue4
  t9 := Tryd.underlying9
  a9 := Tryd.isAgg9
  z9 := Tryd.sizeOf9
  v9 := Tryd.zeroValue9
  t20 := Tryd.underlying20
  a20 := Tryd.isAgg20
  z20 := Tryd.sizeOf20
  v20 := Tryd.zeroValue20
  t37 := Tryd.underlying66
  a37 := Tryd.isAgg66
  z37 := Tryd.sizeOf66
  v37 := Tryd.zeroValue66
  t70 := Tryd.underlying65
  a70 := Tryd.isAgg65
  z70 := Tryd.sizeOf65
  v70 := Tryd.zeroValue65
  t72 := Tryd.underlying68
  a72 := Tryd.isAgg68
  z72 := Tryd.sizeOf68
  v72 := Tryd.zeroValue68
  t75 := Tryd.underlying104
  a75 := Tryd.isAgg104
  z75 := Tryd.sizeOf104
  v75 := Tryd.zeroValue104
  t164 := Tryd.underlying129
  a164 := Tryd.isAgg129
  z164 := Tryd.sizeOf129
  v164 := Tryd.zeroValue129
}
theorem bl167 : Go.Proofs.Lays.n167 Tryd.prog bren := {
  mixed := by kernel_rfl
  f167 := Tryd.func66.trans (congrArg some (by kernel_rfl))
  f240 := Tryd.func92.trans (congrArg some (by kernel_rfl))
  f276 := Tryd.func107.trans (congrArg some (by kernel_rfl))
  t0 := Tryd.underlying0
  a0 := Tryd.isAgg0
  z0 := Tryd.sizeOf0
  v0 := Tryd.zeroValue0
  t4 := Tryd.underlying4
  a4 := Tryd.isAgg4
  z4 := Tryd.sizeOf4
  v4 := Tryd.zeroValue4
  t5 := Tryd.underlying5
  a5 := Tryd.isAgg5
  z5 := Tryd.sizeOf5
  v5 := Tryd.zeroValue5
  t9 := Tryd.underlying9
  a9 := Tryd.isAgg9
  z9 := Tryd.sizeOf9
  v9 := Tryd.zeroValue9
  t20 := Tryd.underlying20
  a20 := Tryd.isAgg20
  z20 := Tryd.sizeOf20
  v20 := Tryd.zeroValue20
  t37 := Tryd.underlying66
  a37 := Tryd.isAgg66
  z37 := Tryd.sizeOf66
  v37 := Tryd.zeroValue66
  t70 := Tryd.underlying65
  a70 := Tryd.isAgg65
  z70 := Tryd.sizeOf65
  v70 := Tryd.zeroValue65
  t72 := Tryd.underlying68
  a72 := Tryd.isAgg68
  z72 := Tryd.sizeOf68
  v72 := Tryd.zeroValue68
  t75 := Tryd.underlying104
  a75 := Tryd.isAgg104
  z75 := Tryd.sizeOf104
  v75 := Tryd.zeroValue104
  t164 := Tryd.underlying129
  a164 := Tryd.isAgg129
  z164 := Tryd.sizeOf129
  v164 := Tryd.zeroValue129
}
theorem bl169 : Go.Proofs.Lays.n169 Tryd.prog bren := {
  mixed := by kernel_rfl
  f169 := Tryd.func41.trans (congrArg some (by kernel_rfl))
  t0 := Tryd.underlying0
  a0 := Tryd.isAgg0
  z0 := Tryd.sizeOf0
  v0 := Tryd.zeroValue0
  t3 := Tryd.underlying3
  a3 := Tryd.isAgg3
  z3 := Tryd.sizeOf3
  v3 := Tryd.zeroValue3
  t9 := Tryd.underlying9
  a9 := Tryd.isAgg9
  z9 := Tryd.sizeOf9
  v9 := Tryd.zeroValue9
  t37 := Tryd.underlying66
  a37 := Tryd.isAgg66
  z37 := Tryd.sizeOf66
  v37 := Tryd.zeroValue66
  t70 := Tryd.underlying65
  a70 := Tryd.isAgg65
  z70 := Tryd.sizeOf65
  v70 := Tryd.zeroValue65
  t72 := Tryd.underlying68
  a72 := Tryd.isAgg68
  z72 := Tryd.sizeOf68
  v72 := Tryd.zeroValue68
  t127 := Tryd.underlying108
  a127 := Tryd.isAgg108
  z127 := Tryd.sizeOf108
  v127 := Tryd.zeroValue108
}
theorem bextra : Builder.Extra Tryd.prog bren := {
  sizeBuilder := by kernel_rfl
  liesBuilder := by kernel_rfl
  t5 := Tryd.underlying5
  a5 := Tryd.isAgg5
  z5 := Tryd.sizeOf5
  v5 := Tryd.zeroValue5
  infoByte := by kernel_rfl
  cellsByte := by kernel_rfl
  sizeByte := by kernel_rfl
  neB5 := by decide }

/-- a builder of the call's own (its blocks from B on), in block b, holding the bytes l -/
def Bld (B b : Nat) (l : List UInt8) (w : World) : Prop := Lib.IsBuilder 68 5 B b (bsV l) w
theorem strCells_sB (l : List UInt8) : Lib.strCells (sB l) = bsV l := by simp [Lib.strCells, bsV, sB, bV]
theorem bsV_add (a b : List UInt8) : bsV a ++ bsV b = bsV (a ++ b) := by simp [bsV]

theorem Bld.fresh (w : World) : Bld w.heap.size w.heap.size [] (w.alloc (.cells #[.pointer none, .slice none 0 0] 68)) := Lib.fresh_isBuilder _ _ _
theorem ownsRow_extB {base : Nat} {e : TypeId} {k : Nat} {v : Value} {n : Nat} {xs : List Value} {w w' : World} (h : w.ownsRow base e k v n xs) (hb : Below w.heap.size w w') : w'.ownsRow base e k v n xs :=
  h.kept (row := none) ⟨hb.os, hb.tape, hb.output, hb.size, fun i hi _ => hb.block i hi⟩ (by cases v.ownBlock with | none => exact .inl rfl | some j => exact .inr (by simp))
theorem builderAt_ext {T e : TypeId} {B b : Nat} {p : Value} {bs : List Value} {w w' : World} (h : Lib.BuilderAt T e B b p bs w) (hb : Below w.heap.size w w') : Lib.BuilderAt T e B b p bs w' := by
  have hlt := Lib.BuilderAt.lt h
  obtain ⟨h1, v, h2, h3, h4⟩ := h
  exact ⟨h1, v, by rw [hb.block b hlt]; exact h2, ownsRow_extB h3 hb, h4⟩
theorem Bld.ext {B b : Nat} {l : List UInt8} {w w' : World} (h : Bld B b l w) (hb : Below w.heap.size w w') : Bld B b l w' := by
  rcases h with h | h
  · exact .inl (builderAt_ext h hb)
  · exact .inr (builderAt_ext h hb)

theorem writeString_any (B b : Nat) (l s : List UInt8) (w : World) (h : Bld B b l w) (hlen : l.length + s.length ≤ 1000000000000) (hBw : B ≤ w.heap.size) :
    Calls Tryd.prog 67 #[.pointer (some ⟨b, 0, none⟩), sV s] w fun e w' => e = .returned (.tuple #[.int .i64 s.length, .nilIface]) ∧ Bld B b (l ++ s) w' ∧ Below B w w' := by
  refine (Any.Builder_WriteString bl166 bextra B b (bsV l) (sB s) w h (by rw [sB_size]; simp [bsV]; omega) hBw).mono fun e w' h => ?_
  obtain ⟨rfl, h1, h2⟩ := h
  rw [strCells_sB, bsV_add] at h1
  exact ⟨by rw [sB_size], .inr h1, h2⟩
theorem writeByte_any (B b : Nat) (l : List UInt8) (c : UInt8) (n : Int) (hn : (c.toNat : Int) = n) (w : World) (h : Bld B b l w) (hlen : l.length ≤ 1000000000000) (hBw : B ≤ w.heap.size) :
    Calls Tryd.prog 66 #[.pointer (some ⟨b, 0, none⟩), .int .u8 n] w fun e w' => e = .returned .nilIface ∧ Bld B b (l ++ [c]) w' ∧ Below B w w' := by
  subst hn
  refine (Any.Builder_WriteByte bl167 bextra B b (bsV l) (c.toNat : Int) w h (by simp [bsV]; omega) hBw).mono fun e w' h => ?_
  obtain ⟨rfl, h1, h2⟩ := h
  rw [bsV_app] at h1
  exact ⟨rfl, .inr h1, h2⟩
theorem string_any (B b : Nat) (l : List UInt8) (w : World) (h : Bld B b l w) (hBw : B ≤ w.heap.size) :
    Calls Tryd.prog 41 #[.pointer (some ⟨b, 0, none⟩)] w fun e w' => e = .returned (sV l) ∧ Below B w w' :=
  Any.Builder_String_any bl169 bextra B b l w h hBw

end Go.Proofs.YtfkjokbhnblndaaDoor
