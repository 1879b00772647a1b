/- Programs: plain, and why one is not valid. -/
import Derived.Test.YtfkjokbhnblndaaGreatDoorPgN
import Derived.Test.YtfkjokbhnblndaaGreatDoorISl
import Derived.Test.YtfkjokbhnblndaaGreatDoorInts
namespace Go.Proofs.YtfkjokbhnblndaaGreatDoor
open Go.RowKit
set_option linter.unusedVariables false
set_option linter.unusedSimpArgs false

structure Ins where
  op : Int
  a : Int
  b : Int
  c : Int
  args : List Int
structure Fn where
  name : List UInt8
  params : Int
  regs : Int
  prio : Int
  cl : Bool
  code : List Ins
structure Ob where
  name : List UInt8
  kind : Int
  size : Int
  oth : Int
structure Va where
  name : List UInt8
  init : Int
  atomic : Bool
structure Pg where
  fs : List Fn
  os : List Ob
  vs : List Va

/-- what a field means: what, and of which kind -/
structure Opd where
  what : Int
  kind : Int
deriving DecidableEq
structure Sh where
  a : Opd
  b : Opd
  c : Opd
  args : Int
deriving DecidableEq

abbrev Z : Opd := ⟨0, 0⟩
abbrev W (k : Int) : Opd := ⟨k, 0⟩
abbrev Ob' (k : Int) : Opd := ⟨12, k⟩
/-- the shapes of the operations -/
def shTab : List (Int × Sh) := [
  (1, ⟨W 4, W 1, Z, 0⟩), (2, ⟨W 4, W 3, Z, 0⟩), (3, ⟨W 4, W 3, W 3, 0⟩), (4, ⟨W 4, W 3, W 3, 0⟩), (5, ⟨W 4, W 3, W 3, 0⟩), (6, ⟨W 4, W 3, W 3, 0⟩), (7, ⟨W 4, W 3, W 3, 0⟩), (8, ⟨W 4, W 3, W 3, 0⟩), (9, ⟨W 4, W 3, W 3, 0⟩), (10, ⟨W 4, W 3, W 3, 0⟩), (11, ⟨W 4, W 3, W 3, 0⟩),
  (12, ⟨W 4, W 3, Z, 0⟩), (13, ⟨W 6, Z, Z, 0⟩), (14, ⟨W 3, W 6, Z, 0⟩), (15, ⟨W 4, W 8, Z, 1⟩), (16, ⟨W 3, Z, Z, 0⟩), (17, ⟨Z, W 9, Z, 1⟩), (18, ⟨Z, Z, Z, 0⟩), (19, ⟨Z, Z, Z, 0⟩), (20, ⟨W 3, Z, Z, 0⟩), (21, ⟨W 3, Z, Z, 0⟩),
  (30, ⟨W 4, W 10, Z, 0⟩), (31, ⟨W 10, W 3, Z, 0⟩), (32, ⟨W 4, W 11, W 3, 0⟩), (33, ⟨W 4, W 11, Z, 2⟩), (34, ⟨W 4, W 8, Z, 1⟩), (35, ⟨W 5, W 5, W 7, 0⟩), (36, ⟨W 4, Z, Z, 0⟩), (37, ⟨Z, Z, Z, 0⟩), (38, ⟨Z, Z, Z, 0⟩), (39, ⟨Z, Z, Z, 0⟩), (40, ⟨W 3, Z, Z, 0⟩), (41, ⟨W 3, Z, Z, 0⟩), (42, ⟨W 2, W 3, Z, 0⟩), (43, ⟨W 3, Z, Z, 0⟩),
  (50, ⟨Ob' 1, Z, Z, 0⟩), (51, ⟨W 4, Ob' 1, Z, 0⟩), (52, ⟨Ob' 1, Z, Z, 0⟩), (53, ⟨Ob' 2, Z, Z, 0⟩), (54, ⟨Ob' 2, Z, Z, 0⟩), (55, ⟨Ob' 2, Z, Z, 0⟩), (56, ⟨Ob' 2, Z, Z, 0⟩), (57, ⟨Ob' 3, Z, Z, 0⟩), (58, ⟨Ob' 3, Z, Z, 0⟩), (59, ⟨Ob' 3, Z, Z, 0⟩), (60, ⟨Ob' 4, W 3, Z, 0⟩), (61, ⟨W 4, Ob' 4, W 3, 0⟩), (62, ⟨Ob' 4, W 3, Z, 0⟩), (63, ⟨W 4, Ob' 5, Z, 0⟩),
  (64, ⟨Ob' 6, W 3, Z, 0⟩), (65, ⟨W 4, Ob' 6, W 4, 0⟩), (66, ⟨Ob' 6, Z, Z, 0⟩), (67, ⟨W 4, W 4, W 4, 3⟩), (68, ⟨Ob' 7, W 3, Z, 0⟩), (69, ⟨Ob' 7, Z, Z, 0⟩), (70, ⟨W 4, Ob' 7, Z, 0⟩), (71, ⟨Ob' 7, Z, Z, 0⟩), (72, ⟨Ob' 8, W 3, Z, 0⟩), (73, ⟨Ob' 9, W 3, Z, 0⟩), (74, ⟨W 4, Ob' 9, Z, 0⟩)]
def shp (op : Int) : Option Sh := shTab.lookup op

def inB (n lo hi : Int) : Bool := decide (lo ≤ n ∧ n ≤ hi)
/-- the first error of f 0 .. f (n - 1) -/
def fstE (f : Nat → Int) : Nat → Int
  | 0 => 0
  | n + 1 => if fstE f n = 0 then f n else fstE f n
theorem fstE_ok {f : Nat → Int} : ∀ {n : Nat}, (∀ j, j < n → f j = 0) → fstE f n = 0
  | 0, _ => rfl
  | n + 1, h => by simp [fstE, fstE_ok (n := n) (fun j hj => h j (by omega)), h n (by omega)]
theorem fstE_step {f : Nat → Int} {n : Nat} (h : fstE f n = 0) : fstE f (n + 1) = f n := by simp [fstE, h]
theorem fstE_stop {f : Nat → Int} {j : Nat} (h0 : fstE f j = 0) (h : f j ≠ 0) : ∀ {n : Nat}, j < n → fstE f n = f j
  | 0, hj => by omega
  | n + 1, hj => by
    by_cases e : j = n
    · subst e; simp [fstE, h0]
    · have := fstE_stop h0 h (n := n) (by omega)
      simp [fstE, this, h]
theorem fstE_all {f : Nat → Int} {n : Nat} (h : fstE f n = 0) : ∀ j, j < n → f j = 0 := by
  intro j
  induction j using Nat.strongRecOn with
  | _ j ih =>
    intro hj
    by_cases e : f j = 0
    · exact e
    · have h0 : fstE f j = 0 := fstE_ok (fun i hi => ih i hi (by omega))
      rw [fstE_stop h0 e hj] at h
      exact absurd h e

def szLo (k : Int) : Int := if k = 4 ∨ k = 5 ∨ k = 7 ∨ k = 8 then 1 else 0
def szHi (k : Int) : Int := if k = 4 ∨ k = 5 ∨ k = 6 ∨ k = 7 ∨ k = 8 then 100 else 0
def otLo (k : Int) : Int := if k = 8 then 1 else 0
def otHi (n : Nat) (k : Int) : Int := if k = 3 then (n : Int) - 1 else if k = 4 then 1 else if k = 8 then 1099511627776 else 0
def kindAt (l : List Ob) (i : Int) : Int := ((l[i.toNat]?).map Ob.kind).getD 0
/-- why an object is not valid -/
def ckOb (l : List Ob) (i : Nat) : Int := match l[i]? with
  | none => 0
  | some o =>
    if isNm o.name = false then 5
    else if inB o.kind 1 9 = false then 8
    else if inB o.size (szLo o.kind) (szHi o.kind) = false ∨ inB o.oth (otLo o.kind) (otHi l.length o.kind) = false then 2
    else if o.kind = 3 ∧ kindAt l o.oth ≠ 1 then 8
    else if (l.take i).any (fun x => x.name == o.name) then 6 else 0
/-- why a variable is not valid -/
def ckVa (p : Pg) (i : Nat) : Int := match p.vs[i]? with
  | none => 0
  | some v =>
    if isNm v.name = false then 5
    else if inB v.init (-1099511627776) 1099511627776 = false then 2
    else if p.os.any (fun x => x.name == v.name) then 6
    else if (p.vs.take i).any (fun x => x.name == v.name) then 6 else 0
/-- why an operand is not valid -/
def ckOpd (p : Pg) (f : Fn) (o : Opd) (n : Int) : Int :=
  if o.what = 0 then (if n = 0 then 0 else 1)
  else if o.what = 1 then (if inB n (-1099511627776) 1099511627776 then 0 else 2)
  else if o.what = 2 then (if inB n 0 99 then 0 else 2)
  else if o.what = 3 ∨ o.what = 4 then (if inB n 0 (f.regs - 1) then 0 else 2)
  else if o.what = 5 then (if inB n (-1) (f.regs - 1) then 0 else 2)
  else if o.what = 6 then (if inB n 0 (f.code.length - 1) then 0 else 2)
  else if o.what = 7 then (if inB n 0 (f.code.length - 1) then (if ((f.code[n.toNat]?).map Ins.op).getD 0 = 36 then 0 else 8) else 2)
  else if o.what = 8 ∨ o.what = 9 then (if inB n 0 (p.fs.length - 1) then (if ((p.fs[n.toNat]?).map Fn.cl).getD false = decide (o.what = 9) then 0 else 16) else 2)
  else if o.what = 10 then (if inB n 0 (p.vs.length - 1) then 0 else 2)
  else if o.what = 11 then (if inB n 0 (p.vs.length - 1) then (if ((p.vs[n.toNat]?).map Va.atomic).getD false then 0 else 16) else 2)
  else if inB n 0 (p.os.length - 1) then (if kindAt p.os n = o.kind then 0 else 8) else 2
def forb (op : Int) : Bool := [15, 17, 18, 19, 34, 35, 36, 37, 42, 43].any (fun x => x == op)
/-- why a case of a select is not valid -/
def ckCase (p : Pg) (f : Fn) (k ch r : Int) : Int :=
  if k = 3 then (if ch ≠ 0 ∨ r ≠ 0 then 1 else 0)
  else if k = 1 ∨ k = 2 then
    (if ckOpd p f (Ob' 6) ch ≠ 0 then ckOpd p f (Ob' 6) ch else if k = 1 ∧ inB r 0 (f.regs - 1) = false then 2 else if k = 2 ∧ r ≠ 0 then 1 else 0)
  else 8
def caseAt (l : List Int) (j : Nat) : Int × Int × Int := (l.getD (3 * j) 0, l.getD (3 * j + 1) 0, l.getD (3 * j + 2) 0)
def defs (l : List Int) : Nat → Nat
  | 0 => 0
  | n + 1 => defs l n + (if l.getD (3 * n) 0 = 3 then 1 else 0)
def ckCases (p : Pg) (f : Fn) (l : List Int) : Int :=
  if l.length = 0 ∨ l.length % 3 ≠ 0 ∨ l.length > 18 then 10
  else if fstE (fun j => ckCase p f (l.getD (3 * j) 0) (l.getD (3 * j + 1) 0) (l.getD (3 * j + 2) 0)) (l.length / 3) ≠ 0 then fstE (fun j => ckCase p f (l.getD (3 * j) 0) (l.getD (3 * j + 1) 0) (l.getD (3 * j + 2) 0)) (l.length / 3)
  else if defs l (l.length / 3) > 1 then 16 else 0
def regOut (f : Fn) (n : Int) : Bool := !inB n 0 (f.regs - 1)
def ckRegs (f : Fn) (l : List Int) (want : Int) : Int := if (l.length : Int) ≠ want then 10 else if l.any (regOut f) then 2 else 0
def ckArgs (p : Pg) (f : Fn) (what : Int) (x : Ins) : Int :=
  if what = 0 then (if x.args.length > 0 then 1 else 0)
  else if what = 3 then ckCases p f x.args
  else ckRegs f x.args (if what = 1 then ((p.fs[x.b.toNat]?).map Fn.params).getD 0 else 2)
/-- why an instruction is not valid -/
def ckIns (p : Pg) (f : Fn) (x : Ins) : Int := match shp x.op with
  | none => 8
  | some s =>
    if f.cl = true ∧ forb x.op = true then 16
    else if ckOpd p f s.a x.a ≠ 0 then ckOpd p f s.a x.a
    else if ckOpd p f s.b x.b ≠ 0 then ckOpd p f s.b x.b
    else if ckOpd p f s.c x.c ≠ 0 then ckOpd p f s.c x.c
    else if ckArgs p f s.args x ≠ 0 then ckArgs p f s.args x
    else if x.op = 65 ∧ x.a = x.c ∨ x.op = 67 ∧ (x.a = x.b ∨ x.a = x.c ∨ x.b = x.c) then 16 else 0
def insAt (f : Fn) (i : Nat) : Ins := f.code.getD i ⟨0, 0, 0, 0, []⟩
/-- why a function is not valid -/
def ckFn (p : Pg) (i : Nat) : Int := match p.fs[i]? with
  | none => 0
  | some f =>
    if isNm f.name = false then 5
    else if (p.fs.take i).any (fun x => x.name == f.name) then 6
    else if inB f.params 0 8 = false ∨ inB f.regs f.params 32 = false ∨ inB f.prio 0 9 = false ∨ (f.cl = true ∧ f.prio ≠ 0) then 2
    else if f.code.length > 200 then 4
    else if i = 0 ∧ (f.params > 0 ∨ f.cl = true) then 16
    else fstE (fun k => ckIns p f (insAt f k)) f.code.length
/-- why a program is not valid -/
def ckPg (p : Pg) : Int :=
  if p.fs.length = 0 then 1
  else if p.fs.length > 32 ∨ p.os.length > 16 ∨ p.vs.length > 16 then 4
  else if fstE (ckOb p.os) p.os.length ≠ 0 then fstE (ckOb p.os) p.os.length
  else if fstE (ckVa p) p.vs.length ≠ 0 then fstE (ckVa p) p.vs.length
  else fstE (ckFn p) p.fs.length
end Go.Proofs.YtfkjokbhnblndaaGreatDoor
