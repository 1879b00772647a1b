/- The kit's contracts of strings.Builder at this seat's numbers; printed by mk_build.py. -/
import Derived.Shelf.Strings.Builder1
import Derived.Test.YtfkjokbhnblndaaGreatDoorBase
import Derived.Test.YtfkjokbhnblndaaGreatDoorInteger
namespace Go.Proofs.YtfkjokbhnblndaaGreatDoor
open Go.RowKit Go.Shelf
set_option linter.unusedVariables false

def bren : Ren := ⟨fun | 166 => 93 | 167 => 92 | 169 => 28 | 240 => 128 | 276 => 149 | n => n, fun | 0 => 0 | 3 => 3 | 4 => 4 | 5 => 5 | 9 => 9 | 20 => 20 | 37 => 42 | 70 => 61 | 72 => 63 | 75 => 150 | 80 => 69 | 127 => 122 | 164 => 211 | n => n, fun | n => n⟩
theorem bl166 : Go.Proofs.Lays.n166 Tryz.prog bren := {
  mixed := by kernel_rfl
  f166 := Tryz.func93.trans (congrArg some (by kernel_rfl))
  f240 := Tryz.func128.trans (congrArg some (by kernel_rfl))
  f276 := Tryz.func149.trans (congrArg some (by kernel_rfl))
  t0 := Tryz.underlying0
  a0 := Tryz.isAgg0
  z0 := Tryz.sizeOf0
  v0 := Tryz.zeroValue0
  t3 := Tryz.underlying3
  a3 := Tryz.isAgg3
  z3 := Tryz.sizeOf3
  v3 := Tryz.zeroValue3
  t4 := Tryz.underlying4
  a4 := Tryz.isAgg4
  z4 := Tryz.sizeOf4
  v4 := Tryz.zeroValue4
  t9 := Tryz.underlying9
  a9 := Tryz.isAgg9
  z9 := Tryz.sizeOf9
  v9 := Tryz.zeroValue9
  t20 := Tryz.underlying20
  a20 := Tryz.isAgg20
  z20 := Tryz.sizeOf20
  v20 := Tryz.zeroValue20
  t37 := Tryz.underlying42
  a37 := Tryz.isAgg42
  z37 := Tryz.sizeOf42
  v37 := Tryz.zeroValue42
  t70 := Tryz.underlying61
  a70 := Tryz.isAgg61
  z70 := Tryz.sizeOf61
  v70 := Tryz.zeroValue61
  t72 := Tryz.underlying63
  a72 := Tryz.isAgg63
  z72 := Tryz.sizeOf63
  v72 := Tryz.zeroValue63
  t75 := Tryz.underlying150
  a75 := Tryz.isAgg150
  z75 := Tryz.sizeOf150
  v75 := Tryz.zeroValue150
  t164 := Tryz.underlying211
  a164 := Tryz.isAgg211
  z164 := Tryz.sizeOf211
  v164 := Tryz.zeroValue211
}
theorem bl167 : Go.Proofs.Lays.n167 Tryz.prog bren := {
  mixed := by kernel_rfl
  f167 := Tryz.func92.trans (congrArg some (by kernel_rfl))
  f240 := Tryz.func128.trans (congrArg some (by kernel_rfl))
  f276 := Tryz.func149.trans (congrArg some (by kernel_rfl))
  t0 := Tryz.underlying0
  a0 := Tryz.isAgg0
  z0 := Tryz.sizeOf0
  v0 := Tryz.zeroValue0
  t4 := Tryz.underlying4
  a4 := Tryz.isAgg4
  z4 := Tryz.sizeOf4
  v4 := Tryz.zeroValue4
  t5 := Tryz.underlying5
  a5 := Tryz.isAgg5
  z5 := Tryz.sizeOf5
  v5 := Tryz.zeroValue5
  t9 := Tryz.underlying9
  a9 := Tryz.isAgg9
  z9 := Tryz.sizeOf9
  v9 := Tryz.zeroValue9
  t20 := Tryz.underlying20
  a20 := Tryz.isAgg20
  z20 := Tryz.sizeOf20
  v20 := Tryz.zeroValue20
  t37 := Tryz.underlying42
  a37 := Tryz.isAgg42
  z37 := Tryz.sizeOf42
  v37 := Tryz.zeroValue42
  t70 := Tryz.underlying61
  a70 := Tryz.isAgg61
  z70 := Tryz.sizeOf61
  v70 := Tryz.zeroValue61
  t72 := Tryz.underlying63
  a72 := Tryz.isAgg63
  z72 := Tryz.sizeOf63
  v72 := Tryz.zeroValue63
  t75 := Tryz.underlying150
  a75 := Tryz.isAgg150
  z75 := Tryz.sizeOf150
  v75 := Tryz.zeroValue150
  t164 := Tryz.underlying211
  a164 := Tryz.isAgg211
  z164 := Tryz.sizeOf211
  v164 := Tryz.zeroValue211
}
theorem bl169 : Go.Proofs.Lays.n169 Tryz.prog bren := {
  mixed := by kernel_rfl
  f169 := Tryz.func28.trans (congrArg some (by kernel_rfl))
  t0 := Tryz.underlying0
  a0 := Tryz.isAgg0
  z0 := Tryz.sizeOf0
  v0 := Tryz.zeroValue0
  t3 := Tryz.underlying3
  a3 := Tryz.isAgg3
  z3 := Tryz.sizeOf3
  v3 := Tryz.zeroValue3
  t9 := Tryz.underlying9
  a9 := Tryz.isAgg9
  z9 := Tryz.sizeOf9
  v9 := Tryz.zeroValue9
  t37 := Tryz.underlying42
  a37 := Tryz.isAgg42
  z37 := Tryz.sizeOf42
  v37 := Tryz.zeroValue42
  t70 := Tryz.underlying61
  a70 := Tryz.isAgg61
  z70 := Tryz.sizeOf61
  v70 := Tryz.zeroValue61
  t72 := Tryz.underlying63
  a72 := Tryz.isAgg63
  z72 := Tryz.sizeOf63
  v72 := Tryz.zeroValue63
  t127 := Tryz.underlying122
  a127 := Tryz.isAgg122
  z127 := Tryz.sizeOf122
  v127 := Tryz.zeroValue122
}
theorem bextra : Builder.Extra Tryz.prog bren := {
  sizeBuilder := by kernel_rfl
  liesBuilder := by kernel_rfl
  t5 := Tryz.underlying5
  a5 := Tryz.isAgg5
  z5 := Tryz.sizeOf5
  v5 := Tryz.zeroValue5
  infoByte := by kernel_rfl
  cellsByte := by kernel_rfl
  sizeByte := by kernel_rfl
  neB5 := by decide }

/-- a builder of the call's own (its blocks from B on), in block b, holding the bytes l -/
def Bld (B b : Nat) (l : List UInt8) (w : World) : Prop := Lib.IsBuilder 63 5 B b (bsV l) w
theorem strCells_sB (l : List UInt8) : Lib.strCells (sB l) = bsV l := by simp [Lib.strCells, bsV, sB, bV]
theorem bsV_add (a b : List UInt8) : bsV a ++ bsV b = bsV (a ++ b) := by simp [bsV]

theorem Bld.fresh (w : World) : Bld w.heap.size w.heap.size [] (w.alloc (.cells #[.pointer none, .slice none 0 0] 63)) := Lib.fresh_isBuilder _ _ _
theorem ownsRow_extB {base : Nat} {e : TypeId} {k : Nat} {v : Value} {n : Nat} {xs : List Value} {w w' : World} (h : w.ownsRow base e k v n xs) (hb : Below w.heap.size w w') : w'.ownsRow base e k v n xs :=
  h.kept (row := none) ⟨hb.os, hb.tape, hb.output, hb.size, fun i hi _ => hb.block i hi⟩ (by cases v.ownBlock with | none => exact .inl rfl | some j => exact .inr (by simp))
theorem builderAt_ext {T e : TypeId} {B b : Nat} {p : Value} {bs : List Value} {w w' : World} (h : Lib.BuilderAt T e B b p bs w) (hb : Below w.heap.size w w') : Lib.BuilderAt T e B b p bs w' := by
  have hlt := Lib.BuilderAt.lt h
  obtain ⟨h1, v, h2, h3, h4⟩ := h
  exact ⟨h1, v, by rw [hb.block b hlt]; exact h2, ownsRow_extB h3 hb, h4⟩
theorem Bld.ext {B b : Nat} {l : List UInt8} {w w' : World} (h : Bld B b l w) (hb : Below w.heap.size w w') : Bld B b l w' := by
  rcases h with h | h
  · exact .inl (builderAt_ext h hb)
  · exact .inr (builderAt_ext h hb)

theorem writeString_any (B b : Nat) (l s : List UInt8) (w : World) (h : Bld B b l w) (hlen : l.length + s.length ≤ 1000000000000) (hBw : B ≤ w.heap.size) :
    Calls Tryz.prog 93 #[.pointer (some ⟨b, 0, none⟩), sV s] w fun e w' => e = .returned (.tuple #[.int .i64 s.length, .nilIface]) ∧ Bld B b (l ++ s) w' ∧ Below B w w' := by
  refine (Any.Builder_WriteString bl166 bextra B b (bsV l) (sB s) w h (by rw [sB_size]; simp [bsV]; omega) hBw).mono fun e w' h => ?_
  obtain ⟨rfl, h1, h2⟩ := h
  rw [strCells_sB, bsV_add] at h1
  exact ⟨by rw [sB_size], .inr h1, h2⟩
theorem writeByte_any (B b : Nat) (l : List UInt8) (c : UInt8) (n : Int) (hn : (c.toNat : Int) = n) (w : World) (h : Bld B b l w) (hlen : l.length ≤ 1000000000000) (hBw : B ≤ w.heap.size) :
    Calls Tryz.prog 92 #[.pointer (some ⟨b, 0, none⟩), .int .u8 n] w fun e w' => e = .returned .nilIface ∧ Bld B b (l ++ [c]) w' ∧ Below B w w' := by
  subst hn
  refine (Any.Builder_WriteByte bl167 bextra B b (bsV l) (c.toNat : Int) w h (by simp [bsV]; omega) hBw).mono fun e w' h => ?_
  obtain ⟨rfl, h1, h2⟩ := h
  rw [bsV_app] at h1
  exact ⟨rfl, .inr h1, h2⟩
theorem string_any (B b : Nat) (l : List UInt8) (w : World) (h : Bld B b l w) (hBw : B ≤ w.heap.size) :
    Calls Tryz.prog 28 #[.pointer (some ⟨b, 0, none⟩)] w fun e w' => e = .returned (sV l) ∧ Below B w w' :=
  Any.Builder_String_any bl169 bextra B b l w h hBw

end Go.Proofs.YtfkjokbhnblndaaGreatDoor
