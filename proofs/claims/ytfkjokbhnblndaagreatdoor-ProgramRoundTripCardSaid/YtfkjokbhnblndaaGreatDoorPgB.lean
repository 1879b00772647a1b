/- Programs in memory. -/
import Derived.Test.YtfkjokbhnblndaaGreatDoorPgA
namespace Go.Proofs.YtfkjokbhnblndaaGreatDoor
open Go.RowKit
set_option linter.unusedVariables false
set_option linter.unusedSimpArgs false

def i64 (n : Int) : Prop := -9223372036854775808 ≤ n ∧ n ≤ 9223372036854775807
structure Ins.wf (x : Ins) : Prop where
  op : i64 x.op
  a : i64 x.a
  b : i64 x.b
  c : i64 x.c
  len : x.args.length ≤ 17592186044416
  args : ∀ n ∈ x.args, i64 n
structure Fn.wf (x : Fn) : Prop where
  name : x.name.length ≤ 140737488355328
  params : i64 x.params
  regs : i64 x.regs
  prio : i64 x.prio
  len : x.code.length ≤ 17592186044416
  code : ∀ c ∈ x.code, c.wf
structure Ob.wf (x : Ob) : Prop where
  name : x.name.length ≤ 140737488355328
  kind : i64 x.kind
  size : i64 x.size
  oth : i64 x.oth
structure Va.wf (x : Va) : Prop where
  name : x.name.length ≤ 140737488355328
  init : i64 x.init
structure Pg.wf (p : Pg) : Prop where
  nf : p.fs.length ≤ 17592186044416
  no : p.os.length ≤ 17592186044416
  nv : p.vs.length ≤ 17592186044416
  fs : ∀ x ∈ p.fs, x.wf
  os : ∀ x ∈ p.os, x.wf
  vs : ∀ x ∈ p.vs, x.wf

theorem cell_lt2 {w : World} {a : Addr} {v : Value} (h : w.cell? a = some v) : a.block < w.heap.size := by
  unfold World.cell? at h
  split at h
  · rename_i hx; exact lt_of_block hx
  · cases h
theorem cell_ext {w W : World} {b o : Nat} {v : Value} (h : w.cell? ⟨b, o, none⟩ = some v) (hE : Ext w W) : W.cell? ⟨b, o, none⟩ = some v := (hE.below.cell (p := ⟨b, o, none⟩) (cell_lt2 h)).trans h

/-- the cells of an instruction -/
structure Ins.cells (w : World) (b o : Nat) (x : Ins) (a : Option Addr) (c : Nat) : Prop where
  c0 : w.cell? ⟨b, o, none⟩ = some (.int .i64 x.op)
  c1 : w.cell? ⟨b, o + 1, none⟩ = some (.int .i64 x.a)
  c2 : w.cell? ⟨b, o + 2, none⟩ = some (.int .i64 x.b)
  c3 : w.cell? ⟨b, o + 3, none⟩ = some (.int .i64 x.c)
  c4 : w.cell? ⟨b, o + 4, none⟩ = some (.slice a x.args.length c)
def InsRow (w : World) (p : Option Addr) (l : List Ins) : Prop := ∀ i (h : i < l.length), ∃ b o a c, p = some ⟨b, o, none⟩ ∧ Ins.cells w b (o + i * 5) l[i] a c ∧ IntsAt w a l[i].args ∧ l[i].args.length ≤ c
structure Fn.cells (w : World) (b o : Nat) (x : Fn) (a : Option Addr) (c : Nat) : Prop where
  c0 : w.cell? ⟨b, o, none⟩ = some (sV x.name)
  c1 : w.cell? ⟨b, o + 1, none⟩ = some (.int .i64 x.params)
  c2 : w.cell? ⟨b, o + 2, none⟩ = some (.int .i64 x.regs)
  c3 : w.cell? ⟨b, o + 3, none⟩ = some (.int .i64 x.prio)
  c4 : w.cell? ⟨b, o + 4, none⟩ = some (.bool x.cl)
  c5 : w.cell? ⟨b, o + 5, none⟩ = some (.slice a x.code.length c)
def FnRow (w : World) (p : Option Addr) (l : List Fn) : Prop := ∀ i (h : i < l.length), ∃ b o a c, p = some ⟨b, o, none⟩ ∧ Fn.cells w b (o + i * 6) l[i] a c ∧ InsRow w a l[i].code
structure Ob.cells (w : World) (b o : Nat) (x : Ob) : Prop where
  c0 : w.cell? ⟨b, o, none⟩ = some (sV x.name)
  c1 : w.cell? ⟨b, o + 1, none⟩ = some (.int .i64 x.kind)
  c2 : w.cell? ⟨b, o + 2, none⟩ = some (.int .i64 x.size)
  c3 : w.cell? ⟨b, o + 3, none⟩ = some (.int .i64 x.oth)
def ObRow (w : World) (p : Option Addr) (l : List Ob) : Prop := ∀ i (h : i < l.length), ∃ b o, p = some ⟨b, o, none⟩ ∧ Ob.cells w b (o + i * 4) l[i]
structure Va.cells (w : World) (b o : Nat) (x : Va) : Prop where
  c0 : w.cell? ⟨b, o, none⟩ = some (sV x.name)
  c1 : w.cell? ⟨b, o + 1, none⟩ = some (.int .i64 x.init)
  c2 : w.cell? ⟨b, o + 2, none⟩ = some (.bool x.atomic)
def VaRow (w : World) (p : Option Addr) (l : List Va) : Prop := ∀ i (h : i < l.length), ∃ b o, p = some ⟨b, o, none⟩ ∧ Va.cells w b (o + i * 3) l[i]

theorem Ins.cells.ext {w W : World} {b o : Nat} {x : Ins} {a : Option Addr} {c : Nat} (h : Ins.cells w b o x a c) (hE : Ext w W) : Ins.cells W b o x a c := ⟨cell_ext h.c0 hE, cell_ext h.c1 hE, cell_ext h.c2 hE, cell_ext h.c3 hE, cell_ext h.c4 hE⟩
theorem Fn.cells.ext {w W : World} {b o : Nat} {x : Fn} {a : Option Addr} {c : Nat} (h : Fn.cells w b o x a c) (hE : Ext w W) : Fn.cells W b o x a c := ⟨cell_ext h.c0 hE, cell_ext h.c1 hE, cell_ext h.c2 hE, cell_ext h.c3 hE, cell_ext h.c4 hE, cell_ext h.c5 hE⟩
theorem Ob.cells.ext {w W : World} {b o : Nat} {x : Ob} (h : Ob.cells w b o x) (hE : Ext w W) : Ob.cells W b o x := ⟨cell_ext h.c0 hE, cell_ext h.c1 hE, cell_ext h.c2 hE, cell_ext h.c3 hE⟩
theorem Va.cells.ext {w W : World} {b o : Nat} {x : Va} (h : Va.cells w b o x) (hE : Ext w W) : Va.cells W b o x := ⟨cell_ext h.c0 hE, cell_ext h.c1 hE, cell_ext h.c2 hE⟩
theorem InsRow.ext {w W : World} {p : Option Addr} {l : List Ins} (h : InsRow w p l) (hE : Ext w W) : InsRow W p l := fun i hi => by
  obtain ⟨b, o, a, c, e, h1, h2, h3⟩ := h i hi
  exact ⟨b, o, a, c, e, h1.ext hE, h2.below hE, h3⟩
theorem FnRow.ext {w W : World} {p : Option Addr} {l : List Fn} (h : FnRow w p l) (hE : Ext w W) : FnRow W p l := fun i hi => by
  obtain ⟨b, o, a, c, e, h1, h2⟩ := h i hi
  exact ⟨b, o, a, c, e, h1.ext hE, h2.ext hE⟩
theorem ObRow.ext {w W : World} {p : Option Addr} {l : List Ob} (h : ObRow w p l) (hE : Ext w W) : ObRow W p l := fun i hi => by
  obtain ⟨b, o, e, h1⟩ := h i hi
  exact ⟨b, o, e, h1.ext hE⟩
theorem VaRow.ext {w W : World} {p : Option Addr} {l : List Va} (h : VaRow w p l) (hE : Ext w W) : VaRow W p l := fun i hi => by
  obtain ⟨b, o, e, h1⟩ := h i hi
  exact ⟨b, o, e, h1.ext hE⟩

/-- where the rows of a program lie, and their capacities -/
structure PA where
  fa : Option Addr
  fc : Nat
  oa : Option Addr
  oc : Nat
  va : Option Addr
  vc : Nat
abbrev PV (p : Pg) (A : PA) : Value := .agg #[.slice A.fa p.fs.length A.fc, .slice A.oa p.os.length A.oc, .slice A.va p.vs.length A.vc]
abbrev FV (f : Fn) (a : Option Addr) (c : Nat) : Value := .agg #[sV f.name, .int .i64 f.params, .int .i64 f.regs, .int .i64 f.prio, .bool f.cl, .slice a f.code.length c]
abbrev IV (x : Ins) (a : Option Addr) (c : Nat) : Value := .agg #[.int .i64 x.op, .int .i64 x.a, .int .i64 x.b, .int .i64 x.c, .slice a x.args.length c]
/-- the program lies there -/
structure PgAt (w : World) (p : Pg) (A : PA) : Prop where
  fs : FnRow w A.fa p.fs
  os : ObRow w A.oa p.os
  vs : VaRow w A.va p.vs
  wf : p.wf
  cf : p.fs.length ≤ A.fc
  co : p.os.length ≤ A.oc
  cv : p.vs.length ≤ A.vc
theorem PgAt.ext {w W : World} {p : Pg} {A : PA} (h : PgAt w p A) (hE : Ext w W) : PgAt W p A := ⟨h.fs.ext hE, h.os.ext hE, h.vs.ext hE, h.wf, h.cf, h.co, h.cv⟩
end Go.Proofs.YtfkjokbhnblndaaGreatDoor
