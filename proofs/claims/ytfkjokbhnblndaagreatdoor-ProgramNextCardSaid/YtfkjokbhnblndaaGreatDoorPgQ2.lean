/- The reference's roles: the table. -/
import Derived.Test.YtfkjokbhnblndaaGreatDoorPgQ1
import Derived.Test.YtfkjokbhnblndaaGreatDoorPgQ1b
import Derived.Test.YtfkjokbhnblndaaGreatDoorPgF3
namespace Go.Proofs.YtfkjokbhnblndaaGreatDoor
open Go.RowKit
set_option linter.unusedVariables false
set_option linter.unusedSimpArgs false

/-- the letter of what a field means -/
def rb (o : Opd) : UInt8 :=
  if o.what = 0 then 46 else if o.what = 1 then 110 else if o.what = 2 then 109 else if o.what = 3 then 114 else if o.what = 4 then 119 else if o.what = 5 then 111 else if o.what = 6 then 116
  else if o.what = 7 then 99 else if o.what = 8 then 102 else if o.what = 9 then 100 else if o.what = 10 then 118 else if o.what = 11 then 97 else UInt8.ofNat (48 + o.kind.toNat)
def ra (n : Int) : UInt8 := if n = 0 then 46 else if n = 1 then 112 else if n = 2 then 50 else 115
def rolS (s : Sh) : List UInt8 := [rb s.a, rb s.b, rb s.c, ra s.args]
/-- the roles of an operation -/
def rol (k : Int) : List UInt8 := match shp k with | none => [] | some s => rolS s
theorem roles_some (k : Int) (s : Sh) (h : shp k = some s) (w : World) : Gives Tryz.prog 124 #[.int .i64 k] w (sV (rolS s)) := by
  have hm := shp_some k s h
  unfold shTab at hm
  simp only [List.mem_cons, List.not_mem_nil, or_false, Prod.mk.injEq] at hm
  rcases hm with ⟨rfl, rfl⟩ | ⟨rfl, rfl⟩ | ⟨rfl, rfl⟩ | ⟨rfl, rfl⟩ | ⟨rfl, rfl⟩ | ⟨rfl, rfl⟩ | ⟨rfl, rfl⟩ | ⟨rfl, rfl⟩ | ⟨rfl, rfl⟩ | ⟨rfl, rfl⟩ | ⟨rfl, rfl⟩ | ⟨rfl, rfl⟩ | ⟨rfl, rfl⟩ | ⟨rfl, rfl⟩ | ⟨rfl, rfl⟩ | ⟨rfl, rfl⟩ | ⟨rfl, rfl⟩ | ⟨rfl, rfl⟩ | ⟨rfl, rfl⟩ | ⟨rfl, rfl⟩ | ⟨rfl, rfl⟩ | ⟨rfl, rfl⟩ | ⟨rfl, rfl⟩ | ⟨rfl, rfl⟩ | ⟨rfl, rfl⟩ | ⟨rfl, rfl⟩ | ⟨rfl, rfl⟩ | ⟨rfl, rfl⟩ | ⟨rfl, rfl⟩ | ⟨rfl, rfl⟩ | ⟨rfl, rfl⟩ | ⟨rfl, rfl⟩ | ⟨rfl, rfl⟩ | ⟨rfl, rfl⟩ | ⟨rfl, rfl⟩ | ⟨rfl, rfl⟩ | ⟨rfl, rfl⟩ | ⟨rfl, rfl⟩ | ⟨rfl, rfl⟩ | ⟨rfl, rfl⟩ | ⟨rfl, rfl⟩ | ⟨rfl, rfl⟩ | ⟨rfl, rfl⟩ | ⟨rfl, rfl⟩ | ⟨rfl, rfl⟩ | ⟨rfl, rfl⟩ | ⟨rfl, rfl⟩ | ⟨rfl, rfl⟩ | ⟨rfl, rfl⟩ | ⟨rfl, rfl⟩ | ⟨rfl, rfl⟩ | ⟨rfl, rfl⟩ | ⟨rfl, rfl⟩ | ⟨rfl, rfl⟩ | ⟨rfl, rfl⟩ | ⟨rfl, rfl⟩ | ⟨rfl, rfl⟩ | ⟨rfl, rfl⟩ | ⟨rfl, rfl⟩ | ⟨rfl, rfl⟩
  · exact roles_1 w
  · exact roles_2 w
  · exact roles_3 w
  · exact roles_4 w
  · exact roles_5 w
  · exact roles_6 w
  · exact roles_7 w
  · exact roles_8 w
  · exact roles_9 w
  · exact roles_10 w
  · exact roles_11 w
  · exact roles_12 w
  · exact roles_13 w
  · exact roles_14 w
  · exact roles_15 w
  · exact roles_16 w
  · exact roles_17 w
  · exact roles_18 w
  · exact roles_19 w
  · exact roles_20 w
  · exact roles_21 w
  · exact roles_30 w
  · exact roles_31 w
  · exact roles_32 w
  · exact roles_33 w
  · exact roles_34 w
  · exact roles_35 w
  · exact roles_36 w
  · exact roles_37 w
  · exact roles_38 w
  · exact roles_39 w
  · exact roles_40 w
  · exact roles_41 w
  · exact roles_42 w
  · exact roles_43 w
  · exact roles_50 w
  · exact roles_51 w
  · exact roles_52 w
  · exact roles_53 w
  · exact roles_54 w
  · exact roles_55 w
  · exact roles_56 w
  · exact roles_57 w
  · exact roles_58 w
  · exact roles_59 w
  · exact roles_60 w
  · exact roles_61 w
  · exact roles_62 w
  · exact roles_63 w
  · exact roles_64 w
  · exact roles_65 w
  · exact roles_66 w
  · exact roles_67 w
  · exact roles_68 w
  · exact roles_69 w
  · exact roles_70 w
  · exact roles_71 w
  · exact roles_72 w
  · exact roles_73 w
  · exact roles_74 w
theorem roles_none (k : Int) (h : shp k = none) (w : World) : Gives Tryz.prog 124 #[.int .i64 k] w (sV []) := by
  rcases shp_none k h with h2 | ⟨h1, h2⟩ | ⟨h1, h2⟩ | h1
  · exact roles_gap0 k h2 w
  · exact roles_gap1 k h1 h2 w
  · exact roles_gap2 k h1 h2 w
  · exact roles_gap3 k h1 w
theorem roles_any (k : Int) (w : World) : Gives Tryz.prog 124 #[.int .i64 k] w (sV (rol k)) := by
  unfold rol
  cases h : shp k with
  | none => exact roles_none k h w
  | some s => exact roles_some k s h w
end Go.Proofs.YtfkjokbhnblndaaGreatDoor
