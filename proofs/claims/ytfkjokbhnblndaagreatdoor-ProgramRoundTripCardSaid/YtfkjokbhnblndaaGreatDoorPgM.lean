/- instr. -/
import Derived.Test.YtfkjokbhnblndaaGreatDoorPgL
import Derived.Test.YtfkjokbhnblndaaGreatDoorRg
namespace Go.Proofs.YtfkjokbhnblndaaGreatDoor
open Go.RowKit
set_option linter.unusedVariables false
set_option linter.unusedSimpArgs false

theorem shTab_what : ∀ q ∈ shTab, (0 ≤ q.2.a.what ∧ q.2.a.what ≤ 12) ∧ (0 ≤ q.2.b.what ∧ q.2.b.what ≤ 12) ∧ (0 ≤ q.2.c.what ∧ q.2.c.what ≤ 12) ∧ (q.2.args = 0 ∨ q.2.args = 1 ∧ (q.2.b.what = 8 ∨ q.2.b.what = 9) ∨ q.2.args = 2 ∨ q.2.args = 3) := by
  decide +kernel
theorem Opd.eta (q : Opd) : (⟨q.what, q.kind⟩ : Opd) = q := rfl
theorem ckOpd_fn {p : Pg} {f : Fn} {q : Opd} {n : Int} (hq : q.what = 8 ∨ q.what = 9) (h : ckOpd p f q n = 0) : ∃ m : Nat, n = m ∧ m < p.fs.length := by
  unfold ckOpd at h
  have h1 : inB n 0 ((p.fs.length : Int) - 1) = true := by
    cases hb : inB n 0 ((p.fs.length : Int) - 1) with
    | true => rfl
    | false => rcases hq with hq | hq <;> simp [hq, hb] at h
  exact inB_nat h1
/-- args of the four kinds -/
theorem args_any (p : Pg) (A : PA) (f : Fn) (ca : Option Addr) (cc : Nat) (x : Ins) (a : Option Addr) (c : Nat) (k : Int) (w : World) (h : CkAt w p A f ca) (hx : x.wf) (hI : IntsAt w a x.args) (hcap : x.args.length ≤ c)
    (hk : k = 0 ∨ k = 1 ∧ (∃ m : Nat, x.b = m ∧ m < p.fs.length) ∨ k = 2 ∨ k = 3) : Gives Tryz.prog 112 #[CKV p A f ca cc, .int .i64 k, IV x a c] w (.int .i64 (ckArgs p f k x)) := by
  rcases hk with rfl | ⟨rfl, hb⟩ | rfl | rfl
  · exact args_0 p A f ca cc x a c w h hx hI hcap
  · exact args_1 p A f ca cc x a c w h hx hI hcap hb
  · exact args_2 p A f ca cc x a c w h hx hI hcap
  · exact args_3 p A f ca cc x a c w h hx hI hcap


theorem fourteen {α : Type} (fs : List α) (h : fs.length = 14) : ∃ a0 a1 a2 a3 a4 a5 a6 a7 a8 a9 a10 a11 a12 a13, fs = [a0, a1, a2, a3, a4, a5, a6, a7, a8, a9, a10, a11, a12, a13] := by
  match fs, h with
  | [a0, a1, a2, a3, a4, a5, a6, a7, a8, a9, a10, a11, a12, a13], _ => exact ⟨a0, a1, a2, a3, a4, a5, a6, a7, a8, a9, a10, a11, a12, a13, rfl⟩
/-- the values of the region that asks operand -/
def iR9 (ck od p1 p2 p3 : Value) (xa xb xc : Int) (k : Nat) (n oe : Int) : Nat → (Nat → Value) → World → Prop
  | 0, s, _ => s 0 = ck
  | 1, s, _ => s 1 = od
  | 2, s, _ => s 2 = p1
  | 3, s, _ => s 3 = .int .i64 xa
  | 4, s, _ => s 4 = p2
  | 5, s, _ => s 5 = .int .i64 xb
  | 6, s, _ => s 6 = p3
  | 7, s, _ => s 7 = .int .i64 xc
  | 8, s, W => ∃ g, s 8 = .slice (some ⟨g, 0, none⟩) 3 3 ∧ W.heap[g]? = some (.cells #[.int .i64 xa, .int .i64 xb, .int .i64 xc] 3 (0, 0))
  | 9, s, _ => s 9 = .int .i64 (k : Int)
  | 10, s, W => ∃ g, s 10 = .pointer (some ⟨g, k, none⟩) ∧ W.heap[g]? = some (.cells #[.int .i64 xa, .int .i64 xb, .int .i64 xc] 3 (0, 0))
  | 11, s, _ => s 11 = .int .i64 n
  | 12, s, _ => s 12 = .int .i64 oe
  | 13, s, _ => s 13 = .int .i64 oe
  | _, _, _ => True
theorem iR9_st (ck od p1 p2 p3 : Value) (xa xb xc : Int) (k : Nat) (n oe : Int) : ∀ i s s' W W', iR9 ck od p1 p2 p3 xa xb xc k n oe i s W → (∀ j ∈ [i], s' j = s j) → Ext W W' → iR9 ck od p1 p2 p3 xa xb xc k n oe i s' W' := by
  intro i s s' W W' h hs hE
  have hs := hs i (by simp)
  match i, h, hs with
  | 0, h, hs => exact hs.trans h
  | 1, h, hs => exact hs.trans h
  | 2, h, hs => exact hs.trans h
  | 3, h, hs => exact hs.trans h
  | 4, h, hs => exact hs.trans h
  | 5, h, hs => exact hs.trans h
  | 6, h, hs => exact hs.trans h
  | 7, h, hs => exact hs.trans h
  | 8, ⟨g, h1, h2⟩, hs => exact ⟨g, hs.trans h1, (hE.below.block _ (lt_of_block h2)).trans h2⟩
  | 9, h, hs => exact hs.trans h
  | 10, ⟨g, h1, h2⟩, hs => exact ⟨g, hs.trans h1, (hE.below.block _ (lt_of_block h2)).trans h2⟩
  | 11, h, hs => exact hs.trans h
  | 12, h, hs => exact hs.trans h
  | 13, h, hs => exact hs.trans h
  | i + 14, h, hs => exact trivial

set_option maxRecDepth 100000 in
set_option maxHeartbeats 4000000 in
theorem instr_none (p : Pg) (A : PA) (f : Fn) (ca : Option Addr) (cc : Nat) (x : Ins) (a : Option Addr) (c : Nat) (w : World) (h : CkAt w p A f ca) (hx : x.wf) (hI : IntsAt w a x.args) (hcap : x.args.length ≤ c) (hs : shp x.op = none) :
    Gives Tryz.prog 87 #[CKV p A f ca cc, IV x a c] w (.int .i64 (ckIns p f x)) := by
  unfold Gives
  obtain ⟨fa, fc, oa, oc, va, vc⟩ := A
  dsimp only [CKV, IV]
  have HR := Lib.hid (show ckIns p f x = 8 by unfold ckIns; rw [hs])
  generalize ckIns p f x = res at *
  have K := Lib.hid (shapeOf_none x.op hs)
  dsimp only [SV] at K
  clear h hI
  obtain ⟨wk, hwk⟩ : ∃ W, W = ((w.alloc (.cells #[.slice fa p.fs.length fc, .slice oa p.os.length oc, .slice va p.vs.length vc, sV f.name, .int .i64 f.params, .int .i64 f.regs, .int .i64 f.prio, .bool f.cl, .slice ca f.code.length cc] 142)).alloc (.cells #[.int .i64 x.op, .int .i64 x.a, .int .i64 x.b, .int .i64 x.c, .slice a x.args.length c] 50)) := ⟨_, rfl⟩
  have BX := Lib.hid (show ∀ W, Ext wk W → (W.cell? ⟨w.heap.size, 0, none⟩ = some (.slice fa p.fs.length fc) ∧ W.cell? ⟨w.heap.size, 1, none⟩ = some (.slice oa p.os.length oc) ∧ W.cell? ⟨w.heap.size, 2, none⟩ = some (.slice va p.vs.length vc) ∧ W.cell? ⟨w.heap.size, 3, none⟩ = some (sV f.name) ∧ W.cell? ⟨w.heap.size, 4, none⟩ = some (.int .i64 f.params) ∧ W.cell? ⟨w.heap.size, 5, none⟩ = some (.int .i64 f.regs) ∧ W.cell? ⟨w.heap.size, 6, none⟩ = some (.int .i64 f.prio) ∧ W.cell? ⟨w.heap.size, 7, none⟩ = some (.bool f.cl) ∧ W.cell? ⟨w.heap.size, 8, none⟩ = some (.slice ca f.code.length cc) ∧ W.cell? ⟨w.heap.size + 1, 0, none⟩ = some (.int .i64 x.op) ∧ W.cell? ⟨w.heap.size + 1, 1, none⟩ = some (.int .i64 x.a) ∧ W.cell? ⟨w.heap.size + 1, 2, none⟩ = some (.int .i64 x.b) ∧ W.cell? ⟨w.heap.size + 1, 3, none⟩ = some (.int .i64 x.c) ∧ W.cell? ⟨w.heap.size + 1, 4, none⟩ = some (.slice a x.args.length c)) from fun W hW => by
    subst hwk
    have h0 := alloc_here w (.cells #[.slice fa p.fs.length fc, .slice oa p.os.length oc, .slice va p.vs.length vc, sV f.name, .int .i64 f.params, .int .i64 f.regs, .int .i64 f.prio, .bool f.cl, .slice ca f.code.length cc] 142)
    have h0 := (Below.heap_alloc _ (.cells #[.int .i64 x.op, .int .i64 x.a, .int .i64 x.b, .int .i64 x.c, .slice a x.args.length c] 50) _ (lt_of_block h0)).trans h0
    have k0 := (hW.below.block _ (lt_of_block h0)).trans h0
    have h1 := alloc_here (w.alloc (.cells #[.slice fa p.fs.length fc, .slice oa p.os.length oc, .slice va p.vs.length vc, sV f.name, .int .i64 f.params, .int .i64 f.regs, .int .i64 f.prio, .bool f.cl, .slice ca f.code.length cc] 142)) (.cells #[.int .i64 x.op, .int .i64 x.a, .int .i64 x.b, .int .i64 x.c, .slice a x.args.length c] 50)
    simp only [World.size_alloc] at h1
    have k1 := (hW.below.block _ (lt_of_block h1)).trans h1
    exact ⟨cell_of k0 rfl, cell_of k0 rfl, cell_of k0 rfl, cell_of k0 rfl, cell_of k0 rfl, cell_of k0 rfl, cell_of k0 rfl, cell_of k0 rfl, cell_of k0 rfl, cell_of k1 rfl, cell_of k1 rfl, cell_of k1 rfl, cell_of k1 rfl, cell_of k1 rfl⟩)
  have HW := Lib.hid (show Ext w wk by rw [hwk]; exact (ext_alloc (ext_alloc (Below.refl _ _) _) _))
  have HE0 := Lib.hid (show Ext wk wk from Below.refl _ _)
  go_enter Tryz.func87, Tryz.ntmps87
  go_wp2_with fail
  rw [← hwk]
  clear hwk
  refine (K.out _).mono ?_
  intro w1 hB
  have HE1 := Lib.hid (Ext.trans HE0.out hB)
  clear hB
  obtain ⟨d0_0, d0_1, d0_2, d0_3, d0_4, d0_5, d0_6, d0_7, d0_8, d1_0, d1_1, d1_2, d1_3, d1_4⟩ := BX.out _ HE1.out
  go_wp2
  go_ret
  exact ⟨by rw [HR.out]; rfl, ext_alloc (Ext.trans HW.out HE1.out) _⟩

set_option maxRecDepth 100000 in
set_option maxHeartbeats 4000000 in
theorem instr_some (p : Pg) (A : PA) (f : Fn) (ca : Option Addr) (cc : Nat) (x : Ins) (a : Option Addr) (c : Nat) (w : World) (h : CkAt w p A f ca) (hx : x.wf) (hI : IntsAt w a x.args) (hcap : x.args.length ≤ c) (s : Sh) (hs : shp x.op = some s) :
    Gives Tryz.prog 87 #[CKV p A f ca cc, IV x a c] w (.int .i64 (ckIns p f x)) := by
  unfold Gives
  obtain ⟨fa, fc, oa, oc, va, vc⟩ := A
  dsimp only [CKV, IV]
  obtain ⟨⟨sa1, sa2⟩, ⟨sb1, sb2⟩, ⟨sc1, sc2⟩, ⟨hsk⟩⟩ := (show ((0 ≤ s.a.what ∧ s.a.what ≤ 12) ∧ (0 ≤ s.b.what ∧ s.b.what ≤ 12) ∧ (0 ≤ s.c.what ∧ s.c.what ≤ 12) ∧ ∃ _ : (s.args = 0 ∨ s.args = 1 ∧ (s.b.what = 8 ∨ s.b.what = 9) ∨ s.args = 2 ∨ s.args = 3), True) from by
    have := shTab_what _ (shp_some _ _ hs); exact ⟨this.1, this.2.1, this.2.2.1, this.2.2.2, trivial⟩)
  have HCK := Lib.hid (show ckIns p f x = (if f.cl = true ∧ forb x.op = true then 16
      else if ckOpd p f s.a x.a ≠ 0 then ckOpd p f s.a x.a
      else if ckOpd p f s.b x.b ≠ 0 then ckOpd p f s.b x.b
      else if ckOpd p f s.c x.c ≠ 0 then ckOpd p f s.c x.c
      else if ckArgs p f s.args x ≠ 0 then ckArgs p f s.args x
      else if x.op = 65 ∧ x.a = x.c ∨ x.op = 67 ∧ (x.a = x.b ∨ x.a = x.c ∨ x.b = x.c) then 16 else 0) from by unfold ckIns; rw [hs])
  generalize ckIns p f x = res at *
  have KS := Lib.hid (shapeOf_some x.op s hs)
  dsimp only [SV] at KS
  have KA := Lib.hid (fun W (hW : Ext w W) => show Gives Tryz.prog 111 #[.agg #[.slice fa p.fs.length fc, .slice oa p.os.length oc, .slice va p.vs.length vc, sV f.name, .int .i64 f.params, .int .i64 f.regs, .int .i64 f.prio, .bool f.cl, .slice ca f.code.length cc], .agg #[.int .i64 s.a.what, .int .i64 s.a.kind], .int .i64 x.a] W (.int .i64 (ckOpd p f s.a x.a)) from operand_any p ⟨fa, fc, oa, oc, va, vc⟩ f ca cc s.a x.a W (h.ext hW) hx.a ⟨sa1, sa2⟩)
  have KB := Lib.hid (fun W (hW : Ext w W) => show Gives Tryz.prog 111 #[.agg #[.slice fa p.fs.length fc, .slice oa p.os.length oc, .slice va p.vs.length vc, sV f.name, .int .i64 f.params, .int .i64 f.regs, .int .i64 f.prio, .bool f.cl, .slice ca f.code.length cc], .agg #[.int .i64 s.b.what, .int .i64 s.b.kind], .int .i64 x.b] W (.int .i64 (ckOpd p f s.b x.b)) from operand_any p ⟨fa, fc, oa, oc, va, vc⟩ f ca cc s.b x.b W (h.ext hW) hx.b ⟨sb1, sb2⟩)
  have KC := Lib.hid (fun W (hW : Ext w W) => show Gives Tryz.prog 111 #[.agg #[.slice fa p.fs.length fc, .slice oa p.os.length oc, .slice va p.vs.length vc, sV f.name, .int .i64 f.params, .int .i64 f.regs, .int .i64 f.prio, .bool f.cl, .slice ca f.code.length cc], .agg #[.int .i64 s.c.what, .int .i64 s.c.kind], .int .i64 x.c] W (.int .i64 (ckOpd p f s.c x.c)) from operand_any p ⟨fa, fc, oa, oc, va, vc⟩ f ca cc s.c x.c W (h.ext hW) hx.c ⟨sc1, sc2⟩)
  have KG := Lib.hid (fun W (hW : Ext w W) (hb : ckOpd p f s.b x.b = 0) => show Gives Tryz.prog 112 #[.agg #[.slice fa p.fs.length fc, .slice oa p.os.length oc, .slice va p.vs.length vc, sV f.name, .int .i64 f.params, .int .i64 f.regs, .int .i64 f.prio, .bool f.cl, .slice ca f.code.length cc], .int .i64 s.args, .agg #[.int .i64 x.op, .int .i64 x.a, .int .i64 x.b, .int .i64 x.c, .slice a x.args.length c]] W (.int .i64 (ckArgs p f s.args x)) from
    args_any p ⟨fa, fc, oa, oc, va, vc⟩ f ca cc x a c s.args W (h.ext hW) hx (hI.below hW) hcap (by
      rcases hsk with e | ⟨e, e2⟩ | e | e
      · exact .inl e
      · exact .inr (.inl ⟨e, ckOpd_fn e2 hb⟩)
      · exact .inr (.inr (.inl e))
      · exact .inr (.inr (.inr e))))
  clear h hI hx hs hsk sa1 sa2 sb1 sb2 sc1 sc2 hcap
  obtain ⟨wk, hwk⟩ : ∃ W, W = ((w.alloc (.cells #[.slice fa p.fs.length fc, .slice oa p.os.length oc, .slice va p.vs.length vc, sV f.name, .int .i64 f.params, .int .i64 f.regs, .int .i64 f.prio, .bool f.cl, .slice ca f.code.length cc] 142)).alloc (.cells #[.int .i64 x.op, .int .i64 x.a, .int .i64 x.b, .int .i64 x.c, .slice a x.args.length c] 50)) := ⟨_, rfl⟩
  have BX := Lib.hid (show ∀ W, Ext wk W → (W.cell? ⟨w.heap.size, 0, none⟩ = some (.slice fa p.fs.length fc) ∧ W.cell? ⟨w.heap.size, 1, none⟩ = some (.slice oa p.os.length oc) ∧ W.cell? ⟨w.heap.size, 2, none⟩ = some (.slice va p.vs.length vc) ∧ W.cell? ⟨w.heap.size, 3, none⟩ = some (sV f.name) ∧ W.cell? ⟨w.heap.size, 4, none⟩ = some (.int .i64 f.params) ∧ W.cell? ⟨w.heap.size, 5, none⟩ = some (.int .i64 f.regs) ∧ W.cell? ⟨w.heap.size, 6, none⟩ = some (.int .i64 f.prio) ∧ W.cell? ⟨w.heap.size, 7, none⟩ = some (.bool f.cl) ∧ W.cell? ⟨w.heap.size, 8, none⟩ = some (.slice ca f.code.length cc) ∧ W.cell? ⟨w.heap.size + 1, 0, none⟩ = some (.int .i64 x.op) ∧ W.cell? ⟨w.heap.size + 1, 1, none⟩ = some (.int .i64 x.a) ∧ W.cell? ⟨w.heap.size + 1, 2, none⟩ = some (.int .i64 x.b) ∧ W.cell? ⟨w.heap.size + 1, 3, none⟩ = some (.int .i64 x.c) ∧ W.cell? ⟨w.heap.size + 1, 4, none⟩ = some (.slice a x.args.length c)) from fun W hW => by
    subst hwk
    have h0 := alloc_here w (.cells #[.slice fa p.fs.length fc, .slice oa p.os.length oc, .slice va p.vs.length vc, sV f.name, .int .i64 f.params, .int .i64 f.regs, .int .i64 f.prio, .bool f.cl, .slice ca f.code.length cc] 142)
    have h0 := (Below.heap_alloc _ (.cells #[.int .i64 x.op, .int .i64 x.a, .int .i64 x.b, .int .i64 x.c, .slice a x.args.length c] 50) _ (lt_of_block h0)).trans h0
    have k0 := (hW.below.block _ (lt_of_block h0)).trans h0
    have h1 := alloc_here (w.alloc (.cells #[.slice fa p.fs.length fc, .slice oa p.os.length oc, .slice va p.vs.length vc, sV f.name, .int .i64 f.params, .int .i64 f.regs, .int .i64 f.prio, .bool f.cl, .slice ca f.code.length cc] 142)) (.cells #[.int .i64 x.op, .int .i64 x.a, .int .i64 x.b, .int .i64 x.c, .slice a x.args.length c] 50)
    simp only [World.size_alloc] at h1
    have k1 := (hW.below.block _ (lt_of_block h1)).trans h1
    exact ⟨cell_of k0 rfl, cell_of k0 rfl, cell_of k0 rfl, cell_of k0 rfl, cell_of k0 rfl, cell_of k0 rfl, cell_of k0 rfl, cell_of k0 rfl, cell_of k0 rfl, cell_of k1 rfl, cell_of k1 rfl, cell_of k1 rfl, cell_of k1 rfl, cell_of k1 rfl⟩)
  have HW := Lib.hid (show Ext w wk by rw [hwk]; exact (ext_alloc (ext_alloc (Below.refl _ _) _) _))
  have HE0 := Lib.hid (show Ext wk wk from Below.refl _ _)
  generalize f.name = fnm at *
  generalize f.params = fpa at *
  generalize f.regs = rg at *
  generalize f.prio = fpr at *
  generalize f.code.length = cl at *
  generalize p.fs.length = nf at *
  generalize p.os.length = no at *
  generalize p.vs.length = nv at *
  generalize ckOpd p f s.a x.a = oa1 at *
  generalize ckOpd p f s.b x.b = ob1 at *
  generalize ckOpd p f s.c x.c = oc1 at *
  generalize ckArgs p f s.args x = ar1 at *
  generalize f.cl = fcl at *
  generalize x.args.length = xl at *
  have hwz : wk.heap.size = w.heap.size + 2 := by rw [hwk]; simp
  go_enter Tryz.func87, Tryz.ntmps87
  go_wp2_with fail
  rw [← hwk]
  clear hwk
  refine (KS.out _).mono ?_
  intro w1 hB
  have HE1 := Lib.hid (Ext.trans HE0.out hB)
  clear hB
  obtain ⟨wq, hwq⟩ : ∃ W, W = w1.alloc (.cells #[.int .i64 s.a.what, .int .i64 s.a.kind, .int .i64 s.b.what, .int .i64 s.b.kind, .int .i64 s.c.what, .int .i64 s.c.kind, .int .i64 s.args] 172) := ⟨_, rfl⟩
  have hwqE : Ext wk wq := by rw [hwq]; exact ext_alloc HE1.out _
  have hws1 : Ext w w1 := Ext.trans HW.out HE1.out
  have HWQ := Lib.hid (Ext.trans HW.out hwqE)
  have hq0 : wq.heap[w1.heap.size]? = some (.cells #[.int .i64 s.a.what, .int .i64 s.a.kind, .int .i64 s.b.what, .int .i64 s.b.kind, .int .i64 s.c.what, .int .i64 s.c.kind, .int .i64 s.args] 172 (0, 0)) := by rw [hwq]; exact alloc_here _ _
  have BQ := Lib.hid (fun W (hW : Ext wq W) => show (W.cell? ⟨w.heap.size, 0, none⟩ = some (.slice fa nf fc) ∧ W.cell? ⟨w.heap.size, 1, none⟩ = some (.slice oa no oc) ∧ W.cell? ⟨w.heap.size, 2, none⟩ = some (.slice va nv vc) ∧ W.cell? ⟨w.heap.size, 3, none⟩ = some (sV fnm) ∧ W.cell? ⟨w.heap.size, 4, none⟩ = some (.int .i64 fpa) ∧ W.cell? ⟨w.heap.size, 5, none⟩ = some (.int .i64 rg) ∧ W.cell? ⟨w.heap.size, 6, none⟩ = some (.int .i64 fpr) ∧ W.cell? ⟨w.heap.size, 7, none⟩ = some (.bool fcl) ∧ W.cell? ⟨w.heap.size, 8, none⟩ = some (.slice ca cl cc) ∧ W.cell? ⟨w.heap.size + 1, 0, none⟩ = some (.int .i64 x.op) ∧ W.cell? ⟨w.heap.size + 1, 1, none⟩ = some (.int .i64 x.a) ∧ W.cell? ⟨w.heap.size + 1, 2, none⟩ = some (.int .i64 x.b) ∧ W.cell? ⟨w.heap.size + 1, 3, none⟩ = some (.int .i64 x.c) ∧ W.cell? ⟨w.heap.size + 1, 4, none⟩ = some (.slice a xl c)) ∧ (W.cell? ⟨w1.heap.size, 0, none⟩ = some (.int .i64 s.a.what) ∧ W.cell? ⟨w1.heap.size, 1, none⟩ = some (.int .i64 s.a.kind) ∧ W.cell? ⟨w1.heap.size, 2, none⟩ = some (.int .i64 s.b.what) ∧ W.cell? ⟨w1.heap.size, 3, none⟩ = some (.int .i64 s.b.kind) ∧ W.cell? ⟨w1.heap.size, 4, none⟩ = some (.int .i64 s.c.what) ∧ W.cell? ⟨w1.heap.size, 5, none⟩ = some (.int .i64 s.c.kind) ∧ W.cell? ⟨w1.heap.size, 6, none⟩ = some (.int .i64 s.args)) from ⟨BX.out W (Ext.trans hwqE hW), by
    have k := (hW.below.block _ (lt_of_block hq0)).trans hq0
    exact ⟨cell_of k rfl, cell_of k rfl, cell_of k rfl, cell_of k rfl, cell_of k rfl, cell_of k rfl, cell_of k rfl⟩⟩)
  have hwqz : wq.heap.size = w1.heap.size + 1 := by rw [hwq]; simp
  clear hq0 hwqE
  have hl0 : w.heap.size < w1.heap.size := Nat.lt_of_lt_of_le (by have := hwz; omega) HE1.out.size
  have hl1 : w.heap.size + 1 < w1.heap.size := Nat.lt_of_lt_of_le (by have := hwz; omega) HE1.out.size
  clear hws1
  cases fcl with
  | false =>
    rw [if_neg (by simp)] at HCK
    obtain ⟨d0_0, d0_1, d0_2, d0_3, d0_4, d0_5, d0_6, d0_7, d0_8, d1_0, d1_1, d1_2, d1_3, d1_4⟩ := BX.out _ HE1.out
    go_wp2_with fail
    rw [← hwq]
    clear hwq d0_0 d0_1 d0_2 d0_3 d0_4 d0_5 d0_6 d0_7 d0_8 d1_0 d1_1 d1_2 d1_3 d1_4
    obtain ⟨wl, hwl⟩ : ∃ W, W = wq.alloc (.cells #[.int .i64 s.a.what, .int .i64 s.a.kind, .int .i64 s.b.what, .int .i64 s.b.kind, .int .i64 s.c.what, .int .i64 s.c.kind] 170) := ⟨_, rfl⟩
    obtain ⟨gs, hgs⟩ : ∃ g, g = w1.heap.size + 1 := ⟨_, rfl⟩
    have HEl := Lib.hid (show Ext wq wl from by rw [hwl]; exact ext_alloc (Below.refl _ _) _)
    have hb9 : wl.heap[gs]? = some (.cells #[.int .i64 s.a.what, .int .i64 s.a.kind, .int .i64 s.b.what, .int .i64 s.b.kind, .int .i64 s.c.what, .int .i64 s.c.kind] 170 (0, 0)) := by rw [hwl, hgs, ← hwqz]; exact alloc_here _ _
    have BL := Lib.hid (fun W (hW : Ext wl W) => And.intro (BQ.out W (Ext.trans HEl.out hW)) (show W.cell? ⟨gs, 0, none⟩ = some (.int .i64 s.a.what) ∧ W.cell? ⟨gs, 1, none⟩ = some (.int .i64 s.a.kind) ∧ W.cell? ⟨gs, 2, none⟩ = some (.int .i64 s.b.what) ∧ W.cell? ⟨gs, 3, none⟩ = some (.int .i64 s.b.kind) ∧ W.cell? ⟨gs, 4, none⟩ = some (.int .i64 s.c.what) ∧ W.cell? ⟨gs, 5, none⟩ = some (.int .i64 s.c.kind) from by
      have k := (hW.below.block _ (lt_of_block hb9)).trans hb9
      exact ⟨cell_of k rfl, cell_of k rfl, cell_of k rfl, cell_of k rfl, cell_of k rfl, cell_of k rfl⟩))
    rw [← hwl, ← hgs]
    clear hb9 hwl hgs
    have HWL := Lib.hid (Ext.trans HWQ.out HEl.out)
    go_loopw [35] (fun i wr => ∃ k : Nat, k ≤ 3 ∧ i = .int .i64 k ∧ (1 ≤ k → oa1 = 0) ∧ (2 ≤ k → ob1 = 0) ∧ (3 ≤ k → oc1 = 0) ∧ Ext wl wr) (fun i _ => 3 - (intOf i).toNat)
    case atStart => exact ⟨0, by omega, rfl, by omega, by omega, by omega, Below.refl _ _⟩
    case round =>
      obtain ⟨k, hk, rfl, ha, hb, hc, hE⟩ := hrel
      have HE := Lib.hid hE
      clear hE
      obtain hk0 | hk0 | hk0 | hk0 : k = 0 ∨ k = 1 ∨ k = 2 ∨ k = 3 := by omega
      · subst hk0
        obtain ⟨⟨⟨d0_0, d0_1, d0_2, d0_3, d0_4, d0_5, d0_6, d0_7, d0_8, d1_0, d1_1, d1_2, d1_3, d1_4⟩, ⟨q0, q1, q2, q3, q4, q5, q6⟩⟩, ⟨g0, g1, g2, g3, g4, g5⟩⟩ := BL.out wr HE.out
        go_wp2_with fail
        clear d0_0 d0_1 d0_2 d0_3 d0_4 d0_5 d0_6 d0_7 d0_8 d1_0 d1_1 d1_2 d1_3 d1_4 q0 q1 q2 q3 q4 q5 q6 g0 g1 g2 g3 g4 g5
        obtain ⟨w5, hw5⟩ : ∃ W, W = wr.alloc (.cells #[.int .i64 s.a.what, .int .i64 s.a.kind] 170) := ⟨_, rfl⟩
        have hE5 : Ext wr w5 := by rw [hw5]; exact ext_alloc (Below.refl _ _) _
        have hb5 : w5.heap[wr.heap.size]? = some (.cells #[.int .i64 s.a.what, .int .i64 s.a.kind] 170 (0, 0)) := by rw [hw5]; exact alloc_here _ _
        rw [← hw5]
        clear hw5
        refine wp_region_g (l := [_, _, _, _, _, _, _, _, _, _, _, _, _, _]) (by kernel_rfl) Ext (fun W => ⟨rfl, rfl, rfl, Nat.le_refl _, fun _ _ => rfl⟩) Ext.trans (iR9 (.agg #[.slice fa nf fc, .slice oa no oc, .slice va nv vc, sV fnm, .int .i64 fpa, .int .i64 rg, .int .i64 fpr, .bool false, .slice ca cl cc]) (.agg #[.int .i64 s.a.what, .int .i64 s.a.kind]) (.pointer (some ⟨w.heap.size + 1, 1, none⟩)) (.pointer (some ⟨w.heap.size + 1, 2, none⟩)) (.pointer (some ⟨w.heap.size + 1, 3, none⟩)) x.a x.b x.c 0 x.a oa1) (fun i => [i]) (iR9_st _ _ _ _ _ _ _ _ _ _ _) (by kernel_rfl) (by kernel_rfl) (by kernel_rfl) 101 rfl (by kernel_rfl) ?_ ?_
        · intro i op ho a' W hA
          obtain ⟨⟨⟨d0_0, d0_1, d0_2, d0_3, d0_4, d0_5, d0_6, d0_7, d0_8, d1_0, d1_1, d1_2, d1_3, d1_4⟩, ⟨q0, q1, q2, q3, q4, q5, q6⟩⟩, ⟨g0, g1, g2, g3, g4, g5⟩⟩ := BL.out W (Ext.trans HE.out (Ext.trans hE5 hA.rel))
          have hk5 := (hA.rel.below.block _ (lt_of_block hb5)).trans hb5
          have o0 : W.cell? ⟨wr.heap.size, 0, none⟩ = some (.int .i64 s.a.what) := cell_of hk5 rfl
          have o1 : W.cell? ⟨wr.heap.size, 1, none⟩ = some (.int .i64 s.a.kind) := cell_of hk5 rfl
          match i, ho with
          | 0, ho =>
            obtain rfl := Option.some.inj ho
            have e1 : a'.eval (.tmp 2) = .pointer (some ⟨w.heap.size, 0, none⟩) := hA.keep 2 (by kernel_rfl)
            refine GoesG.value (.agg #[.slice fa nf fc, .slice oa no oc, .slice va nv vc, sV fnm, .int .i64 fpa, .int .i64 rg, .int .i64 fpr, .bool false, .slice ca cl cc]) rfl ?_ (Below.refl _ _) (fun s h1 h2 => h1 rfl)
            simp only [execOp, e1]
            simp [go_sem, d0_0, d0_1, d0_2, d0_3, d0_4, d0_5, d0_6, d0_7, d0_8, d1_0, d1_1, d1_2, d1_3, d1_4, o0, o1]
          | 1, ho =>
            obtain rfl := Option.some.inj ho
            have e1 : a'.eval (.tmp 8) = .pointer (some ⟨wr.heap.size, 0, none⟩) := hA.keep 8 (by kernel_rfl)
            refine GoesG.value (.agg #[.int .i64 s.a.what, .int .i64 s.a.kind]) rfl ?_ (Below.refl _ _) (fun s h1 h2 => h1 rfl)
            simp only [execOp, e1]
            simp [go_sem, d0_0, d0_1, d0_2, d0_3, d0_4, d0_5, d0_6, d0_7, d0_8, d1_0, d1_1, d1_2, d1_3, d1_4, o0, o1]
          | 2, ho =>
            obtain rfl := Option.some.inj ho
            have e1 : a'.eval (.tmp 3) = .pointer (some ⟨w.heap.size + 1, 0, none⟩) := hA.keep 3 (by kernel_rfl)
            refine GoesG.value (.pointer (some ⟨w.heap.size + 1, 1, none⟩)) rfl ?_ (Below.refl _ _) (fun s h1 h2 => h1 rfl)
            simp only [execOp, e1]
            simp [go_sem, d0_0, d0_1, d0_2, d0_3, d0_4, d0_5, d0_6, d0_7, d0_8, d1_0, d1_1, d1_2, d1_3, d1_4, o0, o1]
          | 3, ho =>
            obtain rfl := Option.some.inj ho
            have e1 : a'.eval (.tmp 42) = .pointer (some ⟨w.heap.size + 1, 1, none⟩) := (sv_dst (l := _) rfl).symm.trans (hA.new 2 (by decide) (by kernel_rfl))
            refine GoesG.value (.int .i64 x.a) rfl ?_ (Below.refl _ _) (fun s h1 h2 => h1 rfl)
            simp only [execOp, e1]
            simp [go_sem, d0_0, d0_1, d0_2, d0_3, d0_4, d0_5, d0_6, d0_7, d0_8, d1_0, d1_1, d1_2, d1_3, d1_4, o0, o1]
          | 4, ho =>
            obtain rfl := Option.some.inj ho
            have e1 : a'.eval (.tmp 3) = .pointer (some ⟨w.heap.size + 1, 0, none⟩) := hA.keep 3 (by kernel_rfl)
            refine GoesG.value (.pointer (some ⟨w.heap.size + 1, 2, none⟩)) rfl ?_ (Below.refl _ _) (fun s h1 h2 => h1 rfl)
            simp only [execOp, e1]
            simp [go_sem, d0_0, d0_1, d0_2, d0_3, d0_4, d0_5, d0_6, d0_7, d0_8, d1_0, d1_1, d1_2, d1_3, d1_4, o0, o1]
          | 5, ho =>
            obtain rfl := Option.some.inj ho
            have e1 : a'.eval (.tmp 44) = .pointer (some ⟨w.heap.size + 1, 2, none⟩) := (sv_dst (l := _) rfl).symm.trans (hA.new 4 (by decide) (by kernel_rfl))
            refine GoesG.value (.int .i64 x.b) rfl ?_ (Below.refl _ _) (fun s h1 h2 => h1 rfl)
            simp only [execOp, e1]
            simp [go_sem, d0_0, d0_1, d0_2, d0_3, d0_4, d0_5, d0_6, d0_7, d0_8, d1_0, d1_1, d1_2, d1_3, d1_4, o0, o1]
          | 6, ho =>
            obtain rfl := Option.some.inj ho
            have e1 : a'.eval (.tmp 3) = .pointer (some ⟨w.heap.size + 1, 0, none⟩) := hA.keep 3 (by kernel_rfl)
            refine GoesG.value (.pointer (some ⟨w.heap.size + 1, 3, none⟩)) rfl ?_ (Below.refl _ _) (fun s h1 h2 => h1 rfl)
            simp only [execOp, e1]
            simp [go_sem, d0_0, d0_1, d0_2, d0_3, d0_4, d0_5, d0_6, d0_7, d0_8, d1_0, d1_1, d1_2, d1_3, d1_4, o0, o1]
          | 7, ho =>
            obtain rfl := Option.some.inj ho
            have e1 : a'.eval (.tmp 46) = .pointer (some ⟨w.heap.size + 1, 3, none⟩) := (sv_dst (l := _) rfl).symm.trans (hA.new 6 (by decide) (by kernel_rfl))
            refine GoesG.value (.int .i64 x.c) rfl ?_ (Below.refl _ _) (fun s h1 h2 => h1 rfl)
            simp only [execOp, e1]
            simp [go_sem, d0_0, d0_1, d0_2, d0_3, d0_4, d0_5, d0_6, d0_7, d0_8, d1_0, d1_1, d1_2, d1_3, d1_4, o0, o1]
          | 8, ho =>
            obtain rfl := Option.some.inj ho
            have e1 : a'.eval (.tmp 43) = .int .i64 x.a := (sv_dst (l := _) rfl).symm.trans (hA.new 3 (by decide) (by kernel_rfl))
            have e2 : a'.eval (.tmp 45) = .int .i64 x.b := (sv_dst (l := _) rfl).symm.trans (hA.new 5 (by decide) (by kernel_rfl))
            have e3 : a'.eval (.tmp 47) = .int .i64 x.c := (sv_dst (l := _) rfl).symm.trans (hA.new 7 (by decide) (by kernel_rfl))
            have f1 : a'.tmps[43]?.getD undef = .int .i64 x.a := by rw [← e1]; simp [Act.eval, Array.getD_eq_getD_getElem?]
            have f2 : a'.tmps[45]?.getD undef = .int .i64 x.b := by rw [← e2]; simp [Act.eval, Array.getD_eq_getD_getElem?]
            have f3 : a'.tmps[47]?.getD undef = .int .i64 x.c := by rw [← e3]; simp [Act.eval, Array.getD_eq_getD_getElem?]
            refine GoesG.value (.slice (some ⟨W.heap.size, 0, none⟩) 3 3) (W' := W.alloc (.cells #[.int .i64 x.a, .int .i64 x.b, .int .i64 x.c] 3)) rfl ?_ (ext_alloc (Below.refl _ _) _) (fun s h1 h2 => ⟨W.heap.size, h1 rfl, alloc_here _ _⟩)
            simp only [execOp]
            simp [go_sem, f1, f2, f3]
          | 9, ho =>
            obtain rfl := Option.some.inj ho
            have e1 : a'.eval (.tmp 7) = .int .i64 0 := hA.keep 7 (by kernel_rfl)
            refine GoesG.value (.int .i64 0) rfl ?_ (Below.refl _ _) (fun s h1 h2 => h1 rfl)
            simp only [execOp, e1]
            simp [go_sem, d0_0, d0_1, d0_2, d0_3, d0_4, d0_5, d0_6, d0_7, d0_8, d1_0, d1_1, d1_2, d1_3, d1_4, o0, o1]
          | 10, ho =>
            obtain rfl := Option.some.inj ho
            obtain ⟨g, hg8, hgc⟩ := hA.new 8 (by decide) (by kernel_rfl)
            have e1 : a'.eval (.tmp 48) = .slice (some ⟨g, 0, none⟩) 3 3 := (sv_dst (l := _) rfl).symm.trans hg8
            have e2 : a'.eval (.tmp 49) = .int .i64 (0 : Nat) := (sv_dst (l := _) rfl).symm.trans (hA.new 9 (by decide) (by kernel_rfl))
            refine GoesG.value (.pointer (some ⟨g, 0, none⟩)) rfl ?_ (Below.refl _ _) (fun s h1 h2 => ⟨g, h1 rfl, hgc⟩)
            simp only [execOp, e1, e2]
            simp [go_sem]
          | 11, ho =>
            obtain rfl := Option.some.inj ho
            obtain ⟨g, hg8, hgc⟩ := hA.new 10 (by decide) (by kernel_rfl)
            have e1 : a'.eval (.tmp 50) = .pointer (some ⟨g, 0, none⟩) := (sv_dst (l := _) rfl).symm.trans hg8
            have c9 : W.cell? ⟨g, 0, none⟩ = some (.int .i64 x.a) := cell_of hgc rfl
            refine GoesG.value (.int .i64 x.a) rfl ?_ (Below.refl _ _) (fun s h1 h2 => h1 rfl)
            simp only [execOp, e1]
            simp [go_sem, c9]
          | 12, ho =>
            obtain rfl := Option.some.inj ho
            have e1 : a'.eval (.tmp 40) = .agg #[.slice fa nf fc, .slice oa no oc, .slice va nv vc, sV fnm, .int .i64 fpa, .int .i64 rg, .int .i64 fpr, .bool false, .slice ca cl cc] := (sv_dst (l := _) rfl).symm.trans (hA.new 0 (by decide) (by kernel_rfl))
            have e2 : a'.eval (.tmp 41) = .agg #[.int .i64 s.a.what, .int .i64 s.a.kind] := (sv_dst (l := _) rfl).symm.trans (hA.new 1 (by decide) (by kernel_rfl))
            have e3 : a'.eval (.tmp 51) = .int .i64 x.a := (sv_dst (l := _) rfl).symm.trans (hA.new 11 (by decide) (by kernel_rfl))
            refine GoesG.call 111 #[.agg #[.slice fa nf fc, .slice oa no oc, .slice va nv vc, sV fnm, .int .i64 fpa, .int .i64 rg, .int .i64 fpr, .bool false, .slice ca cl cc], .agg #[.int .i64 s.a.what, .int .i64 s.a.kind], .int .i64 x.a] rfl ?_ ((KA.out W (Ext.trans HWL.out (Ext.trans HE.out (Ext.trans hE5 hA.rel)))).mono ?_)
            · simp [execOp, resolve, invoke, Deferred.ofValue, e1, e2, e3]
              rfl
            · intro W1 hE1
              exact ⟨_, rfl, hE1, fun s h1 h2 => h1 rfl⟩
          | 13, ho =>
            obtain rfl := Option.some.inj ho
            have e1 : a'.eval (.tmp 52) = .int .i64 oa1 := (sv_dst (l := _) rfl).symm.trans (hA.new 12 (by decide) (by kernel_rfl))
            refine GoesG.value (.int .i64 oa1) rfl ?_ (Below.refl _ _) (fun s h1 h2 => h1 rfl)
            simp only [execOp, e1]
            simp [go_sem, d0_0, d0_1, d0_2, d0_3, d0_4, d0_5, d0_6, d0_7, d0_8, d1_0, d1_1, d1_2, d1_3, d1_4, o0, o1]
          | i + 14, ho => cases ho
        · intro vs w6 hvs hG hΦ
          obtain ⟨y0, y1, y2, y3, y4, y5, y6, y7, y8, y9, y10, y11, y12, y13, rfl⟩ := fourteen vs hvs
          have hy13 : y13 = .int .i64 oa1 := hΦ 13 (by decide)
          subst hy13
          have HE6 := Lib.hid (Ext.trans HE.out (Ext.trans hE5 hG))
          clear hΦ hvs hG hE5 hb5
          simp only [putAll, Act.put, List.setIfInBounds_toArray, List.set_cons_succ, List.set_cons_zero]
          by_cases ho : oa1 = 0
          · have HO := Lib.hid ho
            rw [ho]
            clear ho
            go_wp2
            go_roundw
            case rel => exact ⟨1, by omega, rfl, fun _ => HO.out, by omega, by omega, HE6.out⟩
            case measure => simp [intOf]
          · have HR := Lib.hid (show res = oa1 by rw [HCK.out, if_pos ho])
            have ho' : (oa1 != 0) = true := by rw [bne_iff_ne]; exact ho
            clear ho
            go_wp2
            go_ret
            exact ⟨by rw [HR.out]; rfl, Ext.trans HWL.out HE6.out⟩
      · subst hk0
        obtain ⟨⟨⟨d0_0, d0_1, d0_2, d0_3, d0_4, d0_5, d0_6, d0_7, d0_8, d1_0, d1_1, d1_2, d1_3, d1_4⟩, ⟨q0, q1, q2, q3, q4, q5, q6⟩⟩, ⟨g0, g1, g2, g3, g4, g5⟩⟩ := BL.out wr HE.out
        go_wp2_with fail
        clear d0_0 d0_1 d0_2 d0_3 d0_4 d0_5 d0_6 d0_7 d0_8 d1_0 d1_1 d1_2 d1_3 d1_4 q0 q1 q2 q3 q4 q5 q6 g0 g1 g2 g3 g4 g5
        obtain ⟨w5, hw5⟩ : ∃ W, W = wr.alloc (.cells #[.int .i64 s.b.what, .int .i64 s.b.kind] 170) := ⟨_, rfl⟩
        have hE5 : Ext wr w5 := by rw [hw5]; exact ext_alloc (Below.refl _ _) _
        have hb5 : w5.heap[wr.heap.size]? = some (.cells #[.int .i64 s.b.what, .int .i64 s.b.kind] 170 (0, 0)) := by rw [hw5]; exact alloc_here _ _
        rw [← hw5]
        clear hw5
        refine wp_region_g (l := [_, _, _, _, _, _, _, _, _, _, _, _, _, _]) (by kernel_rfl) Ext (fun W => ⟨rfl, rfl, rfl, Nat.le_refl _, fun _ _ => rfl⟩) Ext.trans (iR9 (.agg #[.slice fa nf fc, .slice oa no oc, .slice va nv vc, sV fnm, .int .i64 fpa, .int .i64 rg, .int .i64 fpr, .bool false, .slice ca cl cc]) (.agg #[.int .i64 s.b.what, .int .i64 s.b.kind]) (.pointer (some ⟨w.heap.size + 1, 1, none⟩)) (.pointer (some ⟨w.heap.size + 1, 2, none⟩)) (.pointer (some ⟨w.heap.size + 1, 3, none⟩)) x.a x.b x.c 1 x.b ob1) (fun i => [i]) (iR9_st _ _ _ _ _ _ _ _ _ _ _) (by kernel_rfl) (by kernel_rfl) (by kernel_rfl) 101 rfl (by kernel_rfl) ?_ ?_
        · intro i op ho a' W hA
          obtain ⟨⟨⟨d0_0, d0_1, d0_2, d0_3, d0_4, d0_5, d0_6, d0_7, d0_8, d1_0, d1_1, d1_2, d1_3, d1_4⟩, ⟨q0, q1, q2, q3, q4, q5, q6⟩⟩, ⟨g0, g1, g2, g3, g4, g5⟩⟩ := BL.out W (Ext.trans HE.out (Ext.trans hE5 hA.rel))
          have hk5 := (hA.rel.below.block _ (lt_of_block hb5)).trans hb5
          have o0 : W.cell? ⟨wr.heap.size, 0, none⟩ = some (.int .i64 s.b.what) := cell_of hk5 rfl
          have o1 : W.cell? ⟨wr.heap.size, 1, none⟩ = some (.int .i64 s.b.kind) := cell_of hk5 rfl
          match i, ho with
          | 0, ho =>
            obtain rfl := Option.some.inj ho
            have e1 : a'.eval (.tmp 2) = .pointer (some ⟨w.heap.size, 0, none⟩) := hA.keep 2 (by kernel_rfl)
            refine GoesG.value (.agg #[.slice fa nf fc, .slice oa no oc, .slice va nv vc, sV fnm, .int .i64 fpa, .int .i64 rg, .int .i64 fpr, .bool false, .slice ca cl cc]) rfl ?_ (Below.refl _ _) (fun s h1 h2 => h1 rfl)
            simp only [execOp, e1]
            simp [go_sem, d0_0, d0_1, d0_2, d0_3, d0_4, d0_5, d0_6, d0_7, d0_8, d1_0, d1_1, d1_2, d1_3, d1_4, o0, o1]
          | 1, ho =>
            obtain rfl := Option.some.inj ho
            have e1 : a'.eval (.tmp 8) = .pointer (some ⟨wr.heap.size, 0, none⟩) := hA.keep 8 (by kernel_rfl)
            refine GoesG.value (.agg #[.int .i64 s.b.what, .int .i64 s.b.kind]) rfl ?_ (Below.refl _ _) (fun s h1 h2 => h1 rfl)
            simp only [execOp, e1]
            simp [go_sem, d0_0, d0_1, d0_2, d0_3, d0_4, d0_5, d0_6, d0_7, d0_8, d1_0, d1_1, d1_2, d1_3, d1_4, o0, o1]
          | 2, ho =>
            obtain rfl := Option.some.inj ho
            have e1 : a'.eval (.tmp 3) = .pointer (some ⟨w.heap.size + 1, 0, none⟩) := hA.keep 3 (by kernel_rfl)
            refine GoesG.value (.pointer (some ⟨w.heap.size + 1, 1, none⟩)) rfl ?_ (Below.refl _ _) (fun s h1 h2 => h1 rfl)
            simp only [execOp, e1]
            simp [go_sem, d0_0, d0_1, d0_2, d0_3, d0_4, d0_5, d0_6, d0_7, d0_8, d1_0, d1_1, d1_2, d1_3, d1_4, o0, o1]
          | 3, ho =>
            obtain rfl := Option.some.inj ho
            have e1 : a'.eval (.tmp 42) = .pointer (some ⟨w.heap.size + 1, 1, none⟩) := (sv_dst (l := _) rfl).symm.trans (hA.new 2 (by decide) (by kernel_rfl))
            refine GoesG.value (.int .i64 x.a) rfl ?_ (Below.refl _ _) (fun s h1 h2 => h1 rfl)
            simp only [execOp, e1]
            simp [go_sem, d0_0, d0_1, d0_2, d0_3, d0_4, d0_5, d0_6, d0_7, d0_8, d1_0, d1_1, d1_2, d1_3, d1_4, o0, o1]
          | 4, ho =>
            obtain rfl := Option.some.inj ho
            have e1 : a'.eval (.tmp 3) = .pointer (some ⟨w.heap.size + 1, 0, none⟩) := hA.keep 3 (by kernel_rfl)
            refine GoesG.value (.pointer (some ⟨w.heap.size + 1, 2, none⟩)) rfl ?_ (Below.refl _ _) (fun s h1 h2 => h1 rfl)
            simp only [execOp, e1]
            simp [go_sem, d0_0, d0_1, d0_2, d0_3, d0_4, d0_5, d0_6, d0_7, d0_8, d1_0, d1_1, d1_2, d1_3, d1_4, o0, o1]
          | 5, ho =>
            obtain rfl := Option.some.inj ho
            have e1 : a'.eval (.tmp 44) = .pointer (some ⟨w.heap.size + 1, 2, none⟩) := (sv_dst (l := _) rfl).symm.trans (hA.new 4 (by decide) (by kernel_rfl))
            refine GoesG.value (.int .i64 x.b) rfl ?_ (Below.refl _ _) (fun s h1 h2 => h1 rfl)
            simp only [execOp, e1]
            simp [go_sem, d0_0, d0_1, d0_2, d0_3, d0_4, d0_5, d0_6, d0_7, d0_8, d1_0, d1_1, d1_2, d1_3, d1_4, o0, o1]
          | 6, ho =>
            obtain rfl := Option.some.inj ho
            have e1 : a'.eval (.tmp 3) = .pointer (some ⟨w.heap.size + 1, 0, none⟩) := hA.keep 3 (by kernel_rfl)
            refine GoesG.value (.pointer (some ⟨w.heap.size + 1, 3, none⟩)) rfl ?_ (Below.refl _ _) (fun s h1 h2 => h1 rfl)
            simp only [execOp, e1]
            simp [go_sem, d0_0, d0_1, d0_2, d0_3, d0_4, d0_5, d0_6, d0_7, d0_8, d1_0, d1_1, d1_2, d1_3, d1_4, o0, o1]
          | 7, ho =>
            obtain rfl := Option.some.inj ho
            have e1 : a'.eval (.tmp 46) = .pointer (some ⟨w.heap.size + 1, 3, none⟩) := (sv_dst (l := _) rfl).symm.trans (hA.new 6 (by decide) (by kernel_rfl))
            refine GoesG.value (.int .i64 x.c) rfl ?_ (Below.refl _ _) (fun s h1 h2 => h1 rfl)
            simp only [execOp, e1]
            simp [go_sem, d0_0, d0_1, d0_2, d0_3, d0_4, d0_5, d0_6, d0_7, d0_8, d1_0, d1_1, d1_2, d1_3, d1_4, o0, o1]
          | 8, ho =>
            obtain rfl := Option.some.inj ho
            have e1 : a'.eval (.tmp 43) = .int .i64 x.a := (sv_dst (l := _) rfl).symm.trans (hA.new 3 (by decide) (by kernel_rfl))
            have e2 : a'.eval (.tmp 45) = .int .i64 x.b := (sv_dst (l := _) rfl).symm.trans (hA.new 5 (by decide) (by kernel_rfl))
            have e3 : a'.eval (.tmp 47) = .int .i64 x.c := (sv_dst (l := _) rfl).symm.trans (hA.new 7 (by decide) (by kernel_rfl))
            have f1 : a'.tmps[43]?.getD undef = .int .i64 x.a := by rw [← e1]; simp [Act.eval, Array.getD_eq_getD_getElem?]
            have f2 : a'.tmps[45]?.getD undef = .int .i64 x.b := by rw [← e2]; simp [Act.eval, Array.getD_eq_getD_getElem?]
            have f3 : a'.tmps[47]?.getD undef = .int .i64 x.c := by rw [← e3]; simp [Act.eval, Array.getD_eq_getD_getElem?]
            refine GoesG.value (.slice (some ⟨W.heap.size, 0, none⟩) 3 3) (W' := W.alloc (.cells #[.int .i64 x.a, .int .i64 x.b, .int .i64 x.c] 3)) rfl ?_ (ext_alloc (Below.refl _ _) _) (fun s h1 h2 => ⟨W.heap.size, h1 rfl, alloc_here _ _⟩)
            simp only [execOp]
            simp [go_sem, f1, f2, f3]
          | 9, ho =>
            obtain rfl := Option.some.inj ho
            have e1 : a'.eval (.tmp 7) = .int .i64 1 := hA.keep 7 (by kernel_rfl)
            refine GoesG.value (.int .i64 1) rfl ?_ (Below.refl _ _) (fun s h1 h2 => h1 rfl)
            simp only [execOp, e1]
            simp [go_sem, d0_0, d0_1, d0_2, d0_3, d0_4, d0_5, d0_6, d0_7, d0_8, d1_0, d1_1, d1_2, d1_3, d1_4, o0, o1]
          | 10, ho =>
            obtain rfl := Option.some.inj ho
            obtain ⟨g, hg8, hgc⟩ := hA.new 8 (by decide) (by kernel_rfl)
            have e1 : a'.eval (.tmp 48) = .slice (some ⟨g, 0, none⟩) 3 3 := (sv_dst (l := _) rfl).symm.trans hg8
            have e2 : a'.eval (.tmp 49) = .int .i64 (1 : Nat) := (sv_dst (l := _) rfl).symm.trans (hA.new 9 (by decide) (by kernel_rfl))
            refine GoesG.value (.pointer (some ⟨g, 1, none⟩)) rfl ?_ (Below.refl _ _) (fun s h1 h2 => ⟨g, h1 rfl, hgc⟩)
            simp only [execOp, e1, e2]
            simp [go_sem]
          | 11, ho =>
            obtain rfl := Option.some.inj ho
            obtain ⟨g, hg8, hgc⟩ := hA.new 10 (by decide) (by kernel_rfl)
            have e1 : a'.eval (.tmp 50) = .pointer (some ⟨g, 1, none⟩) := (sv_dst (l := _) rfl).symm.trans hg8
            have c9 : W.cell? ⟨g, 1, none⟩ = some (.int .i64 x.b) := cell_of hgc rfl
            refine GoesG.value (.int .i64 x.b) rfl ?_ (Below.refl _ _) (fun s h1 h2 => h1 rfl)
            simp only [execOp, e1]
            simp [go_sem, c9]
          | 12, ho =>
            obtain rfl := Option.some.inj ho
            have e1 : a'.eval (.tmp 40) = .agg #[.slice fa nf fc, .slice oa no oc, .slice va nv vc, sV fnm, .int .i64 fpa, .int .i64 rg, .int .i64 fpr, .bool false, .slice ca cl cc] := (sv_dst (l := _) rfl).symm.trans (hA.new 0 (by decide) (by kernel_rfl))
            have e2 : a'.eval (.tmp 41) = .agg #[.int .i64 s.b.what, .int .i64 s.b.kind] := (sv_dst (l := _) rfl).symm.trans (hA.new 1 (by decide) (by kernel_rfl))
            have e3 : a'.eval (.tmp 51) = .int .i64 x.b := (sv_dst (l := _) rfl).symm.trans (hA.new 11 (by decide) (by kernel_rfl))
            refine GoesG.call 111 #[.agg #[.slice fa nf fc, .slice oa no oc, .slice va nv vc, sV fnm, .int .i64 fpa, .int .i64 rg, .int .i64 fpr, .bool false, .slice ca cl cc], .agg #[.int .i64 s.b.what, .int .i64 s.b.kind], .int .i64 x.b] rfl ?_ ((KB.out W (Ext.trans HWL.out (Ext.trans HE.out (Ext.trans hE5 hA.rel)))).mono ?_)
            · simp [execOp, resolve, invoke, Deferred.ofValue, e1, e2, e3]
              rfl
            · intro W1 hE1
              exact ⟨_, rfl, hE1, fun s h1 h2 => h1 rfl⟩
          | 13, ho =>
            obtain rfl := Option.some.inj ho
            have e1 : a'.eval (.tmp 52) = .int .i64 ob1 := (sv_dst (l := _) rfl).symm.trans (hA.new 12 (by decide) (by kernel_rfl))
            refine GoesG.value (.int .i64 ob1) rfl ?_ (Below.refl _ _) (fun s h1 h2 => h1 rfl)
            simp only [execOp, e1]
            simp [go_sem, d0_0, d0_1, d0_2, d0_3, d0_4, d0_5, d0_6, d0_7, d0_8, d1_0, d1_1, d1_2, d1_3, d1_4, o0, o1]
          | i + 14, ho => cases ho
        · intro vs w6 hvs hG hΦ
          obtain ⟨y0, y1, y2, y3, y4, y5, y6, y7, y8, y9, y10, y11, y12, y13, rfl⟩ := fourteen vs hvs
          have hy13 : y13 = .int .i64 ob1 := hΦ 13 (by decide)
          subst hy13
          have HE6 := Lib.hid (Ext.trans HE.out (Ext.trans hE5 hG))
          clear hΦ hvs hG hE5 hb5
          simp only [putAll, Act.put, List.setIfInBounds_toArray, List.set_cons_succ, List.set_cons_zero]
          by_cases ho : ob1 = 0
          · have HO := Lib.hid ho
            rw [ho]
            clear ho
            go_wp2
            go_roundw
            case rel => exact ⟨2, by omega, rfl, fun _ => ha (by omega), fun _ => HO.out, by omega, HE6.out⟩
            case measure => simp [intOf]
          · have HR := Lib.hid (show res = ob1 by rw [HCK.out, if_neg (not_not_intro (ha (by omega))), if_pos ho])
            have ho' : (ob1 != 0) = true := by rw [bne_iff_ne]; exact ho
            clear ho
            go_wp2
            go_ret
            exact ⟨by rw [HR.out]; rfl, Ext.trans HWL.out HE6.out⟩
      · subst hk0
        obtain ⟨⟨⟨d0_0, d0_1, d0_2, d0_3, d0_4, d0_5, d0_6, d0_7, d0_8, d1_0, d1_1, d1_2, d1_3, d1_4⟩, ⟨q0, q1, q2, q3, q4, q5, q6⟩⟩, ⟨g0, g1, g2, g3, g4, g5⟩⟩ := BL.out wr HE.out
        go_wp2_with fail
        clear d0_0 d0_1 d0_2 d0_3 d0_4 d0_5 d0_6 d0_7 d0_8 d1_0 d1_1 d1_2 d1_3 d1_4 q0 q1 q2 q3 q4 q5 q6 g0 g1 g2 g3 g4 g5
        obtain ⟨w5, hw5⟩ : ∃ W, W = wr.alloc (.cells #[.int .i64 s.c.what, .int .i64 s.c.kind] 170) := ⟨_, rfl⟩
        have hE5 : Ext wr w5 := by rw [hw5]; exact ext_alloc (Below.refl _ _) _
        have hb5 : w5.heap[wr.heap.size]? = some (.cells #[.int .i64 s.c.what, .int .i64 s.c.kind] 170 (0, 0)) := by rw [hw5]; exact alloc_here _ _
        rw [← hw5]
        clear hw5
        refine wp_region_g (l := [_, _, _, _, _, _, _, _, _, _, _, _, _, _]) (by kernel_rfl) Ext (fun W => ⟨rfl, rfl, rfl, Nat.le_refl _, fun _ _ => rfl⟩) Ext.trans (iR9 (.agg #[.slice fa nf fc, .slice oa no oc, .slice va nv vc, sV fnm, .int .i64 fpa, .int .i64 rg, .int .i64 fpr, .bool false, .slice ca cl cc]) (.agg #[.int .i64 s.c.what, .int .i64 s.c.kind]) (.pointer (some ⟨w.heap.size + 1, 1, none⟩)) (.pointer (some ⟨w.heap.size + 1, 2, none⟩)) (.pointer (some ⟨w.heap.size + 1, 3, none⟩)) x.a x.b x.c 2 x.c oc1) (fun i => [i]) (iR9_st _ _ _ _ _ _ _ _ _ _ _) (by kernel_rfl) (by kernel_rfl) (by kernel_rfl) 101 rfl (by kernel_rfl) ?_ ?_
        · intro i op ho a' W hA
          obtain ⟨⟨⟨d0_0, d0_1, d0_2, d0_3, d0_4, d0_5, d0_6, d0_7, d0_8, d1_0, d1_1, d1_2, d1_3, d1_4⟩, ⟨q0, q1, q2, q3, q4, q5, q6⟩⟩, ⟨g0, g1, g2, g3, g4, g5⟩⟩ := BL.out W (Ext.trans HE.out (Ext.trans hE5 hA.rel))
          have hk5 := (hA.rel.below.block _ (lt_of_block hb5)).trans hb5
          have o0 : W.cell? ⟨wr.heap.size, 0, none⟩ = some (.int .i64 s.c.what) := cell_of hk5 rfl
          have o1 : W.cell? ⟨wr.heap.size, 1, none⟩ = some (.int .i64 s.c.kind) := cell_of hk5 rfl
          match i, ho with
          | 0, ho =>
            obtain rfl := Option.some.inj ho
            have e1 : a'.eval (.tmp 2) = .pointer (some ⟨w.heap.size, 0, none⟩) := hA.keep 2 (by kernel_rfl)
            refine GoesG.value (.agg #[.slice fa nf fc, .slice oa no oc, .slice va nv vc, sV fnm, .int .i64 fpa, .int .i64 rg, .int .i64 fpr, .bool false, .slice ca cl cc]) rfl ?_ (Below.refl _ _) (fun s h1 h2 => h1 rfl)
            simp only [execOp, e1]
            simp [go_sem, d0_0, d0_1, d0_2, d0_3, d0_4, d0_5, d0_6, d0_7, d0_8, d1_0, d1_1, d1_2, d1_3, d1_4, o0, o1]
          | 1, ho =>
            obtain rfl := Option.some.inj ho
            have e1 : a'.eval (.tmp 8) = .pointer (some ⟨wr.heap.size, 0, none⟩) := hA.keep 8 (by kernel_rfl)
            refine GoesG.value (.agg #[.int .i64 s.c.what, .int .i64 s.c.kind]) rfl ?_ (Below.refl _ _) (fun s h1 h2 => h1 rfl)
            simp only [execOp, e1]
            simp [go_sem, d0_0, d0_1, d0_2, d0_3, d0_4, d0_5, d0_6, d0_7, d0_8, d1_0, d1_1, d1_2, d1_3, d1_4, o0, o1]
          | 2, ho =>
            obtain rfl := Option.some.inj ho
            have e1 : a'.eval (.tmp 3) = .pointer (some ⟨w.heap.size + 1, 0, none⟩) := hA.keep 3 (by kernel_rfl)
            refine GoesG.value (.pointer (some ⟨w.heap.size + 1, 1, none⟩)) rfl ?_ (Below.refl _ _) (fun s h1 h2 => h1 rfl)
            simp only [execOp, e1]
            simp [go_sem, d0_0, d0_1, d0_2, d0_3, d0_4, d0_5, d0_6, d0_7, d0_8, d1_0, d1_1, d1_2, d1_3, d1_4, o0, o1]
          | 3, ho =>
            obtain rfl := Option.some.inj ho
            have e1 : a'.eval (.tmp 42) = .pointer (some ⟨w.heap.size + 1, 1, none⟩) := (sv_dst (l := _) rfl).symm.trans (hA.new 2 (by decide) (by kernel_rfl))
            refine GoesG.value (.int .i64 x.a) rfl ?_ (Below.refl _ _) (fun s h1 h2 => h1 rfl)
            simp only [execOp, e1]
            simp [go_sem, d0_0, d0_1, d0_2, d0_3, d0_4, d0_5, d0_6, d0_7, d0_8, d1_0, d1_1, d1_2, d1_3, d1_4, o0, o1]
          | 4, ho =>
            obtain rfl := Option.some.inj ho
            have e1 : a'.eval (.tmp 3) = .pointer (some ⟨w.heap.size + 1, 0, none⟩) := hA.keep 3 (by kernel_rfl)
            refine GoesG.value (.pointer (some ⟨w.heap.size + 1, 2, none⟩)) rfl ?_ (Below.refl _ _) (fun s h1 h2 => h1 rfl)
            simp only [execOp, e1]
            simp [go_sem, d0_0, d0_1, d0_2, d0_3, d0_4, d0_5, d0_6, d0_7, d0_8, d1_0, d1_1, d1_2, d1_3, d1_4, o0, o1]
          | 5, ho =>
            obtain rfl := Option.some.inj ho
            have e1 : a'.eval (.tmp 44) = .pointer (some ⟨w.heap.size + 1, 2, none⟩) := (sv_dst (l := _) rfl).symm.trans (hA.new 4 (by decide) (by kernel_rfl))
            refine GoesG.value (.int .i64 x.b) rfl ?_ (Below.refl _ _) (fun s h1 h2 => h1 rfl)
            simp only [execOp, e1]
            simp [go_sem, d0_0, d0_1, d0_2, d0_3, d0_4, d0_5, d0_6, d0_7, d0_8, d1_0, d1_1, d1_2, d1_3, d1_4, o0, o1]
          | 6, ho =>
            obtain rfl := Option.some.inj ho
            have e1 : a'.eval (.tmp 3) = .pointer (some ⟨w.heap.size + 1, 0, none⟩) := hA.keep 3 (by kernel_rfl)
            refine GoesG.value (.pointer (some ⟨w.heap.size + 1, 3, none⟩)) rfl ?_ (Below.refl _ _) (fun s h1 h2 => h1 rfl)
            simp only [execOp, e1]
            simp [go_sem, d0_0, d0_1, d0_2, d0_3, d0_4, d0_5, d0_6, d0_7, d0_8, d1_0, d1_1, d1_2, d1_3, d1_4, o0, o1]
          | 7, ho =>
            obtain rfl := Option.some.inj ho
            have e1 : a'.eval (.tmp 46) = .pointer (some ⟨w.heap.size + 1, 3, none⟩) := (sv_dst (l := _) rfl).symm.trans (hA.new 6 (by decide) (by kernel_rfl))
            refine GoesG.value (.int .i64 x.c) rfl ?_ (Below.refl _ _) (fun s h1 h2 => h1 rfl)
            simp only [execOp, e1]
            simp [go_sem, d0_0, d0_1, d0_2, d0_3, d0_4, d0_5, d0_6, d0_7, d0_8, d1_0, d1_1, d1_2, d1_3, d1_4, o0, o1]
          | 8, ho =>
            obtain rfl := Option.some.inj ho
            have e1 : a'.eval (.tmp 43) = .int .i64 x.a := (sv_dst (l := _) rfl).symm.trans (hA.new 3 (by decide) (by kernel_rfl))
            have e2 : a'.eval (.tmp 45) = .int .i64 x.b := (sv_dst (l := _) rfl).symm.trans (hA.new 5 (by decide) (by kernel_rfl))
            have e3 : a'.eval (.tmp 47) = .int .i64 x.c := (sv_dst (l := _) rfl).symm.trans (hA.new 7 (by decide) (by kernel_rfl))
            have f1 : a'.tmps[43]?.getD undef = .int .i64 x.a := by rw [← e1]; simp [Act.eval, Array.getD_eq_getD_getElem?]
            have f2 : a'.tmps[45]?.getD undef = .int .i64 x.b := by rw [← e2]; simp [Act.eval, Array.getD_eq_getD_getElem?]
            have f3 : a'.tmps[47]?.getD undef = .int .i64 x.c := by rw [← e3]; simp [Act.eval, Array.getD_eq_getD_getElem?]
            refine GoesG.value (.slice (some ⟨W.heap.size, 0, none⟩) 3 3) (W' := W.alloc (.cells #[.int .i64 x.a, .int .i64 x.b, .int .i64 x.c] 3)) rfl ?_ (ext_alloc (Below.refl _ _) _) (fun s h1 h2 => ⟨W.heap.size, h1 rfl, alloc_here _ _⟩)
            simp only [execOp]
            simp [go_sem, f1, f2, f3]
          | 9, ho =>
            obtain rfl := Option.some.inj ho
            have e1 : a'.eval (.tmp 7) = .int .i64 2 := hA.keep 7 (by kernel_rfl)
            refine GoesG.value (.int .i64 2) rfl ?_ (Below.refl _ _) (fun s h1 h2 => h1 rfl)
            simp only [execOp, e1]
            simp [go_sem, d0_0, d0_1, d0_2, d0_3, d0_4, d0_5, d0_6, d0_7, d0_8, d1_0, d1_1, d1_2, d1_3, d1_4, o0, o1]
          | 10, ho =>
            obtain rfl := Option.some.inj ho
            obtain ⟨g, hg8, hgc⟩ := hA.new 8 (by decide) (by kernel_rfl)
            have e1 : a'.eval (.tmp 48) = .slice (some ⟨g, 0, none⟩) 3 3 := (sv_dst (l := _) rfl).symm.trans hg8
            have e2 : a'.eval (.tmp 49) = .int .i64 (2 : Nat) := (sv_dst (l := _) rfl).symm.trans (hA.new 9 (by decide) (by kernel_rfl))
            refine GoesG.value (.pointer (some ⟨g, 2, none⟩)) rfl ?_ (Below.refl _ _) (fun s h1 h2 => ⟨g, h1 rfl, hgc⟩)
            simp only [execOp, e1, e2]
            simp [go_sem]
          | 11, ho =>
            obtain rfl := Option.some.inj ho
            obtain ⟨g, hg8, hgc⟩ := hA.new 10 (by decide) (by kernel_rfl)
            have e1 : a'.eval (.tmp 50) = .pointer (some ⟨g, 2, none⟩) := (sv_dst (l := _) rfl).symm.trans hg8
            have c9 : W.cell? ⟨g, 2, none⟩ = some (.int .i64 x.c) := cell_of hgc rfl
            refine GoesG.value (.int .i64 x.c) rfl ?_ (Below.refl _ _) (fun s h1 h2 => h1 rfl)
            simp only [execOp, e1]
            simp [go_sem, c9]
          | 12, ho =>
            obtain rfl := Option.some.inj ho
            have e1 : a'.eval (.tmp 40) = .agg #[.slice fa nf fc, .slice oa no oc, .slice va nv vc, sV fnm, .int .i64 fpa, .int .i64 rg, .int .i64 fpr, .bool false, .slice ca cl cc] := (sv_dst (l := _) rfl).symm.trans (hA.new 0 (by decide) (by kernel_rfl))
            have e2 : a'.eval (.tmp 41) = .agg #[.int .i64 s.c.what, .int .i64 s.c.kind] := (sv_dst (l := _) rfl).symm.trans (hA.new 1 (by decide) (by kernel_rfl))
            have e3 : a'.eval (.tmp 51) = .int .i64 x.c := (sv_dst (l := _) rfl).symm.trans (hA.new 11 (by decide) (by kernel_rfl))
            refine GoesG.call 111 #[.agg #[.slice fa nf fc, .slice oa no oc, .slice va nv vc, sV fnm, .int .i64 fpa, .int .i64 rg, .int .i64 fpr, .bool false, .slice ca cl cc], .agg #[.int .i64 s.c.what, .int .i64 s.c.kind], .int .i64 x.c] rfl ?_ ((KC.out W (Ext.trans HWL.out (Ext.trans HE.out (Ext.trans hE5 hA.rel)))).mono ?_)
            · simp [execOp, resolve, invoke, Deferred.ofValue, e1, e2, e3]
              rfl
            · intro W1 hE1
              exact ⟨_, rfl, hE1, fun s h1 h2 => h1 rfl⟩
          | 13, ho =>
            obtain rfl := Option.some.inj ho
            have e1 : a'.eval (.tmp 52) = .int .i64 oc1 := (sv_dst (l := _) rfl).symm.trans (hA.new 12 (by decide) (by kernel_rfl))
            refine GoesG.value (.int .i64 oc1) rfl ?_ (Below.refl _ _) (fun s h1 h2 => h1 rfl)
            simp only [execOp, e1]
            simp [go_sem, d0_0, d0_1, d0_2, d0_3, d0_4, d0_5, d0_6, d0_7, d0_8, d1_0, d1_1, d1_2, d1_3, d1_4, o0, o1]
          | i + 14, ho => cases ho
        · intro vs w6 hvs hG hΦ
          obtain ⟨y0, y1, y2, y3, y4, y5, y6, y7, y8, y9, y10, y11, y12, y13, rfl⟩ := fourteen vs hvs
          have hy13 : y13 = .int .i64 oc1 := hΦ 13 (by decide)
          subst hy13
          have HE6 := Lib.hid (Ext.trans HE.out (Ext.trans hE5 hG))
          clear hΦ hvs hG hE5 hb5
          simp only [putAll, Act.put, List.setIfInBounds_toArray, List.set_cons_succ, List.set_cons_zero]
          by_cases ho : oc1 = 0
          · have HO := Lib.hid ho
            rw [ho]
            clear ho
            go_wp2
            go_roundw
            case rel => exact ⟨3, by omega, rfl, fun _ => ha (by omega), fun _ => hb (by omega), fun _ => HO.out, HE6.out⟩
            case measure => simp [intOf]
          · have HR := Lib.hid (show res = oc1 by rw [HCK.out, if_neg (not_not_intro (ha (by omega))), if_neg (not_not_intro (hb (by omega))), if_pos ho])
            have ho' : (oc1 != 0) = true := by rw [bne_iff_ne]; exact ho
            clear ho
            go_wp2
            go_ret
            exact ⟨by rw [HR.out]; rfl, Ext.trans HWL.out HE6.out⟩
      · subst hk0
        have ha := ha (by omega)
        have hb := hb (by omega)
        have hc := hc (by omega)
        rw [if_neg (not_not_intro ha), if_neg (not_not_intro hb), if_neg (not_not_intro hc)] at HCK
        obtain ⟨⟨⟨d0_0, d0_1, d0_2, d0_3, d0_4, d0_5, d0_6, d0_7, d0_8, d1_0, d1_1, d1_2, d1_3, d1_4⟩, ⟨q0, q1, q2, q3, q4, q5, q6⟩⟩, ⟨g0, g1, g2, g3, g4, g5⟩⟩ := BL.out wr HE.out
        have KG := Lib.hid (KG.out wr (Ext.trans HWL.out HE.out) hb)
        clear ha hb hc
        go_wp2_with fail
        clear d0_0 d0_1 d0_2 d0_3 d0_4 d0_5 d0_6 d0_7 d0_8 d1_0 d1_1 d1_2 d1_3 d1_4 q0 q1 q2 q3 q4 q5 q6 g0 g1 g2 g3 g4 g5
        refine KG.out.mono ?_
        intro w6 hB
        have HE6 := Lib.hid (Ext.trans HE.out hB)
        clear hB
        obtain ⟨⟨⟨d0_0, d0_1, d0_2, d0_3, d0_4, d0_5, d0_6, d0_7, d0_8, d1_0, d1_1, d1_2, d1_3, d1_4⟩, ⟨q0, q1, q2, q3, q4, q5, q6⟩⟩, ⟨g0, g1, g2, g3, g4, g5⟩⟩ := BL.out w6 HE6.out
        by_cases har : ar1 = 0
        · rw [if_neg (not_not_intro har)] at HCK
          subst har
          by_cases h65 : x.op = 65
          · have n67 : (x.op == 67) = false := by rw [h65]; decide
            have n65 : (x.op == 65) = true := by rw [h65]; decide
            by_cases hac : x.a = x.c
            · have g1 : (x.a == x.c) = true := by simpa using hac
              have HR := Lib.hid (show res = 16 by rw [HCK.out, if_pos (.inl ⟨h65, hac⟩)])
              clear hac h65
              go_wp2
              go_ret
              exact ⟨by rw [HR.out]; rfl, Ext.trans HWL.out HE6.out⟩
            · have g1 : (x.a == x.c) = false := by simpa using hac
              have HR := Lib.hid (show res = 0 by rw [HCK.out, if_neg (by rintro (⟨_, e⟩ | ⟨e, _⟩); exact hac e; omega)])
              clear hac h65
              go_wp2
              go_ret
              exact ⟨by rw [HR.out]; rfl, Ext.trans HWL.out HE6.out⟩
          · have n65 : (x.op == 65) = false := by simpa using h65
            by_cases h67 : x.op = 67
            · have n67 : (x.op == 67) = true := by simpa using h67
              by_cases hab : x.a = x.b
              · have g1 : (x.a == x.b) = true := by simpa using hab
                have HR := Lib.hid (show res = 16 by rw [HCK.out, if_pos (.inr ⟨h67, .inl hab⟩)])
                clear hab h67 h65
                go_wp2
                go_ret
                exact ⟨by rw [HR.out]; rfl, Ext.trans HWL.out HE6.out⟩
              · have g1 : (x.a == x.b) = false := by simpa using hab
                by_cases hac : x.a = x.c
                · have g2 : (x.a == x.c) = true := by simpa using hac
                  have HR := Lib.hid (show res = 16 by rw [HCK.out, if_pos (.inr ⟨h67, .inr (.inl hac)⟩)])
                  clear hab hac h67 h65
                  go_wp2
                  go_ret
                  exact ⟨by rw [HR.out]; rfl, Ext.trans HWL.out HE6.out⟩
                · have g2 : (x.a == x.c) = false := by simpa using hac
                  by_cases hbc : x.b = x.c
                  · have g3 : (x.b == x.c) = true := by simpa using hbc
                    have HR := Lib.hid (show res = 16 by rw [HCK.out, if_pos (.inr ⟨h67, .inr (.inr hbc)⟩)])
                    clear hab hac hbc h67 h65
                    go_wp2
                    go_ret
                    exact ⟨by rw [HR.out]; rfl, Ext.trans HWL.out HE6.out⟩
                  · have g3 : (x.b == x.c) = false := by simpa using hbc
                    have HR := Lib.hid (show res = 0 by rw [HCK.out, if_neg (by rintro (⟨e, _⟩ | ⟨_, e | e | e⟩); exact h65 e; exact hab e; exact hac e; exact hbc e)])
                    clear hab hac hbc h67 h65
                    go_wp2
                    go_ret
                    exact ⟨by rw [HR.out]; rfl, Ext.trans HWL.out HE6.out⟩
            · have n67 : (x.op == 67) = false := by simpa using h67
              have HR := Lib.hid (show res = 0 by rw [HCK.out, if_neg (by rintro (⟨e, _⟩ | ⟨e, _⟩); exact h65 e; exact h67 e)])
              clear h67 h65
              go_wp2
              go_ret
              exact ⟨by rw [HR.out]; rfl, Ext.trans HWL.out HE6.out⟩
        · have HR := Lib.hid (show res = ar1 by rw [HCK.out, if_pos har])
          have ho' : (ar1 != 0) = true := by rw [bne_iff_ne]; exact har
          clear har
          go_wp2
          go_ret
          exact ⟨by rw [HR.out]; rfl, Ext.trans HWL.out HE6.out⟩
  | true =>
    obtain ⟨d0_0, d0_1, d0_2, d0_3, d0_4, d0_5, d0_6, d0_7, d0_8, d1_0, d1_1, d1_2, d1_3, d1_4⟩ := BX.out _ HE1.out
    go_wp2_with fail
    rw [← hwq]
    clear hwq d0_0 d0_1 d0_2 d0_3 d0_4 d0_5 d0_6 d0_7 d0_8 d1_0 d1_1 d1_2 d1_3 d1_4
    refine (forbidden_any _ _).mono ?_
    intro w2 hB
    have HE2 := Lib.hid (show Ext wq w2 from hB)
    clear hB
    cases hfb : forb x.op with
    | true =>
      rw [hfb, if_pos (by simp)] at HCK
      obtain ⟨⟨d0_0, d0_1, d0_2, d0_3, d0_4, d0_5, d0_6, d0_7, d0_8, d1_0, d1_1, d1_2, d1_3, d1_4⟩, ⟨q0, q1, q2, q3, q4, q5, q6⟩⟩ := BQ.out _ HE2.out
      go_wp2
      go_ret
      exact ⟨by rw [HCK.out]; rfl, Ext.trans HWQ.out HE2.out⟩
    | false =>
      rw [hfb, if_neg (by simp)] at HCK
      clear hfb
      obtain ⟨⟨d0_0, d0_1, d0_2, d0_3, d0_4, d0_5, d0_6, d0_7, d0_8, d1_0, d1_1, d1_2, d1_3, d1_4⟩, ⟨q0, q1, q2, q3, q4, q5, q6⟩⟩ := BQ.out _ HE2.out
      go_wp2_with fail
      clear d0_0 d0_1 d0_2 d0_3 d0_4 d0_5 d0_6 d0_7 d0_8 d1_0 d1_1 d1_2 d1_3 d1_4 q0 q1 q2 q3 q4 q5 q6
      obtain ⟨wl, hwl⟩ : ∃ W, W = w2.alloc (.cells #[.int .i64 s.a.what, .int .i64 s.a.kind, .int .i64 s.b.what, .int .i64 s.b.kind, .int .i64 s.c.what, .int .i64 s.c.kind] 170) := ⟨_, rfl⟩
      obtain ⟨gs, hgs⟩ : ∃ g, g = w2.heap.size := ⟨_, rfl⟩
      have HEl := Lib.hid (show Ext wq wl from by rw [hwl]; exact ext_alloc HE2.out _)
      have hb9 : wl.heap[gs]? = some (.cells #[.int .i64 s.a.what, .int .i64 s.a.kind, .int .i64 s.b.what, .int .i64 s.b.kind, .int .i64 s.c.what, .int .i64 s.c.kind] 170 (0, 0)) := by rw [hwl, hgs]; exact alloc_here _ _
      have BL := Lib.hid (fun W (hW : Ext wl W) => And.intro (BQ.out W (Ext.trans HEl.out hW)) (show W.cell? ⟨gs, 0, none⟩ = some (.int .i64 s.a.what) ∧ W.cell? ⟨gs, 1, none⟩ = some (.int .i64 s.a.kind) ∧ W.cell? ⟨gs, 2, none⟩ = some (.int .i64 s.b.what) ∧ W.cell? ⟨gs, 3, none⟩ = some (.int .i64 s.b.kind) ∧ W.cell? ⟨gs, 4, none⟩ = some (.int .i64 s.c.what) ∧ W.cell? ⟨gs, 5, none⟩ = some (.int .i64 s.c.kind) from by
        have k := (hW.below.block _ (lt_of_block hb9)).trans hb9
        exact ⟨cell_of k rfl, cell_of k rfl, cell_of k rfl, cell_of k rfl, cell_of k rfl, cell_of k rfl⟩))
      rw [← hwl, ← hgs]
      clear hb9 hwl hgs
      have HWL := Lib.hid (Ext.trans HWQ.out HEl.out)
      go_loopw [35] (fun i wr => ∃ k : Nat, k ≤ 3 ∧ i = .int .i64 k ∧ (1 ≤ k → oa1 = 0) ∧ (2 ≤ k → ob1 = 0) ∧ (3 ≤ k → oc1 = 0) ∧ Ext wl wr) (fun i _ => 3 - (intOf i).toNat)
      case atStart => exact ⟨0, by omega, rfl, by omega, by omega, by omega, Below.refl _ _⟩
      case round =>
        obtain ⟨k, hk, rfl, ha, hb, hc, hE⟩ := hrel
        have HE := Lib.hid hE
        clear hE
        obtain hk0 | hk0 | hk0 | hk0 : k = 0 ∨ k = 1 ∨ k = 2 ∨ k = 3 := by omega
        · subst hk0
          obtain ⟨⟨⟨d0_0, d0_1, d0_2, d0_3, d0_4, d0_5, d0_6, d0_7, d0_8, d1_0, d1_1, d1_2, d1_3, d1_4⟩, ⟨q0, q1, q2, q3, q4, q5, q6⟩⟩, ⟨g0, g1, g2, g3, g4, g5⟩⟩ := BL.out wr HE.out
          go_wp2_with fail
          clear d0_0 d0_1 d0_2 d0_3 d0_4 d0_5 d0_6 d0_7 d0_8 d1_0 d1_1 d1_2 d1_3 d1_4 q0 q1 q2 q3 q4 q5 q6 g0 g1 g2 g3 g4 g5
          obtain ⟨w5, hw5⟩ : ∃ W, W = wr.alloc (.cells #[.int .i64 s.a.what, .int .i64 s.a.kind] 170) := ⟨_, rfl⟩
          have hE5 : Ext wr w5 := by rw [hw5]; exact ext_alloc (Below.refl _ _) _
          have hb5 : w5.heap[wr.heap.size]? = some (.cells #[.int .i64 s.a.what, .int .i64 s.a.kind] 170 (0, 0)) := by rw [hw5]; exact alloc_here _ _
          rw [← hw5]
          clear hw5
          refine wp_region_g (l := [_, _, _, _, _, _, _, _, _, _, _, _, _, _]) (by kernel_rfl) Ext (fun W => ⟨rfl, rfl, rfl, Nat.le_refl _, fun _ _ => rfl⟩) Ext.trans (iR9 (.agg #[.slice fa nf fc, .slice oa no oc, .slice va nv vc, sV fnm, .int .i64 fpa, .int .i64 rg, .int .i64 fpr, .bool true, .slice ca cl cc]) (.agg #[.int .i64 s.a.what, .int .i64 s.a.kind]) (.pointer (some ⟨w.heap.size + 1, 1, none⟩)) (.pointer (some ⟨w.heap.size + 1, 2, none⟩)) (.pointer (some ⟨w.heap.size + 1, 3, none⟩)) x.a x.b x.c 0 x.a oa1) (fun i => [i]) (iR9_st _ _ _ _ _ _ _ _ _ _ _) (by kernel_rfl) (by kernel_rfl) (by kernel_rfl) 101 rfl (by kernel_rfl) ?_ ?_
          · intro i op ho a' W hA
            obtain ⟨⟨⟨d0_0, d0_1, d0_2, d0_3, d0_4, d0_5, d0_6, d0_7, d0_8, d1_0, d1_1, d1_2, d1_3, d1_4⟩, ⟨q0, q1, q2, q3, q4, q5, q6⟩⟩, ⟨g0, g1, g2, g3, g4, g5⟩⟩ := BL.out W (Ext.trans HE.out (Ext.trans hE5 hA.rel))
            have hk5 := (hA.rel.below.block _ (lt_of_block hb5)).trans hb5
            have o0 : W.cell? ⟨wr.heap.size, 0, none⟩ = some (.int .i64 s.a.what) := cell_of hk5 rfl
            have o1 : W.cell? ⟨wr.heap.size, 1, none⟩ = some (.int .i64 s.a.kind) := cell_of hk5 rfl
            match i, ho with
            | 0, ho =>
              obtain rfl := Option.some.inj ho
              have e1 : a'.eval (.tmp 2) = .pointer (some ⟨w.heap.size, 0, none⟩) := hA.keep 2 (by kernel_rfl)
              refine GoesG.value (.agg #[.slice fa nf fc, .slice oa no oc, .slice va nv vc, sV fnm, .int .i64 fpa, .int .i64 rg, .int .i64 fpr, .bool true, .slice ca cl cc]) rfl ?_ (Below.refl _ _) (fun s h1 h2 => h1 rfl)
              simp only [execOp, e1]
              simp [go_sem, d0_0, d0_1, d0_2, d0_3, d0_4, d0_5, d0_6, d0_7, d0_8, d1_0, d1_1, d1_2, d1_3, d1_4, o0, o1]
            | 1, ho =>
              obtain rfl := Option.some.inj ho
              have e1 : a'.eval (.tmp 8) = .pointer (some ⟨wr.heap.size, 0, none⟩) := hA.keep 8 (by kernel_rfl)
              refine GoesG.value (.agg #[.int .i64 s.a.what, .int .i64 s.a.kind]) rfl ?_ (Below.refl _ _) (fun s h1 h2 => h1 rfl)
              simp only [execOp, e1]
              simp [go_sem, d0_0, d0_1, d0_2, d0_3, d0_4, d0_5, d0_6, d0_7, d0_8, d1_0, d1_1, d1_2, d1_3, d1_4, o0, o1]
            | 2, ho =>
              obtain rfl := Option.some.inj ho
              have e1 : a'.eval (.tmp 3) = .pointer (some ⟨w.heap.size + 1, 0, none⟩) := hA.keep 3 (by kernel_rfl)
              refine GoesG.value (.pointer (some ⟨w.heap.size + 1, 1, none⟩)) rfl ?_ (Below.refl _ _) (fun s h1 h2 => h1 rfl)
              simp only [execOp, e1]
              simp [go_sem, d0_0, d0_1, d0_2, d0_3, d0_4, d0_5, d0_6, d0_7, d0_8, d1_0, d1_1, d1_2, d1_3, d1_4, o0, o1]
            | 3, ho =>
              obtain rfl := Option.some.inj ho
              have e1 : a'.eval (.tmp 42) = .pointer (some ⟨w.heap.size + 1, 1, none⟩) := (sv_dst (l := _) rfl).symm.trans (hA.new 2 (by decide) (by kernel_rfl))
              refine GoesG.value (.int .i64 x.a) rfl ?_ (Below.refl _ _) (fun s h1 h2 => h1 rfl)
              simp only [execOp, e1]
              simp [go_sem, d0_0, d0_1, d0_2, d0_3, d0_4, d0_5, d0_6, d0_7, d0_8, d1_0, d1_1, d1_2, d1_3, d1_4, o0, o1]
            | 4, ho =>
              obtain rfl := Option.some.inj ho
              have e1 : a'.eval (.tmp 3) = .pointer (some ⟨w.heap.size + 1, 0, none⟩) := hA.keep 3 (by kernel_rfl)
              refine GoesG.value (.pointer (some ⟨w.heap.size + 1, 2, none⟩)) rfl ?_ (Below.refl _ _) (fun s h1 h2 => h1 rfl)
              simp only [execOp, e1]
              simp [go_sem, d0_0, d0_1, d0_2, d0_3, d0_4, d0_5, d0_6, d0_7, d0_8, d1_0, d1_1, d1_2, d1_3, d1_4, o0, o1]
            | 5, ho =>
              obtain rfl := Option.some.inj ho
              have e1 : a'.eval (.tmp 44) = .pointer (some ⟨w.heap.size + 1, 2, none⟩) := (sv_dst (l := _) rfl).symm.trans (hA.new 4 (by decide) (by kernel_rfl))
              refine GoesG.value (.int .i64 x.b) rfl ?_ (Below.refl _ _) (fun s h1 h2 => h1 rfl)
              simp only [execOp, e1]
              simp [go_sem, d0_0, d0_1, d0_2, d0_3, d0_4, d0_5, d0_6, d0_7, d0_8, d1_0, d1_1, d1_2, d1_3, d1_4, o0, o1]
            | 6, ho =>
              obtain rfl := Option.some.inj ho
              have e1 : a'.eval (.tmp 3) = .pointer (some ⟨w.heap.size + 1, 0, none⟩) := hA.keep 3 (by kernel_rfl)
              refine GoesG.value (.pointer (some ⟨w.heap.size + 1, 3, none⟩)) rfl ?_ (Below.refl _ _) (fun s h1 h2 => h1 rfl)
              simp only [execOp, e1]
              simp [go_sem, d0_0, d0_1, d0_2, d0_3, d0_4, d0_5, d0_6, d0_7, d0_8, d1_0, d1_1, d1_2, d1_3, d1_4, o0, o1]
            | 7, ho =>
              obtain rfl := Option.some.inj ho
              have e1 : a'.eval (.tmp 46) = .pointer (some ⟨w.heap.size + 1, 3, none⟩) := (sv_dst (l := _) rfl).symm.trans (hA.new 6 (by decide) (by kernel_rfl))
              refine GoesG.value (.int .i64 x.c) rfl ?_ (Below.refl _ _) (fun s h1 h2 => h1 rfl)
              simp only [execOp, e1]
              simp [go_sem, d0_0, d0_1, d0_2, d0_3, d0_4, d0_5, d0_6, d0_7, d0_8, d1_0, d1_1, d1_2, d1_3, d1_4, o0, o1]
            | 8, ho =>
              obtain rfl := Option.some.inj ho
              have e1 : a'.eval (.tmp 43) = .int .i64 x.a := (sv_dst (l := _) rfl).symm.trans (hA.new 3 (by decide) (by kernel_rfl))
              have e2 : a'.eval (.tmp 45) = .int .i64 x.b := (sv_dst (l := _) rfl).symm.trans (hA.new 5 (by decide) (by kernel_rfl))
              have e3 : a'.eval (.tmp 47) = .int .i64 x.c := (sv_dst (l := _) rfl).symm.trans (hA.new 7 (by decide) (by kernel_rfl))
              have f1 : a'.tmps[43]?.getD undef = .int .i64 x.a := by rw [← e1]; simp [Act.eval, Array.getD_eq_getD_getElem?]
              have f2 : a'.tmps[45]?.getD undef = .int .i64 x.b := by rw [← e2]; simp [Act.eval, Array.getD_eq_getD_getElem?]
              have f3 : a'.tmps[47]?.getD undef = .int .i64 x.c := by rw [← e3]; simp [Act.eval, Array.getD_eq_getD_getElem?]
              refine GoesG.value (.slice (some ⟨W.heap.size, 0, none⟩) 3 3) (W' := W.alloc (.cells #[.int .i64 x.a, .int .i64 x.b, .int .i64 x.c] 3)) rfl ?_ (ext_alloc (Below.refl _ _) _) (fun s h1 h2 => ⟨W.heap.size, h1 rfl, alloc_here _ _⟩)
              simp only [execOp]
              simp [go_sem, f1, f2, f3]
            | 9, ho =>
              obtain rfl := Option.some.inj ho
              have e1 : a'.eval (.tmp 7) = .int .i64 0 := hA.keep 7 (by kernel_rfl)
              refine GoesG.value (.int .i64 0) rfl ?_ (Below.refl _ _) (fun s h1 h2 => h1 rfl)
              simp only [execOp, e1]
              simp [go_sem, d0_0, d0_1, d0_2, d0_3, d0_4, d0_5, d0_6, d0_7, d0_8, d1_0, d1_1, d1_2, d1_3, d1_4, o0, o1]
            | 10, ho =>
              obtain rfl := Option.some.inj ho
              obtain ⟨g, hg8, hgc⟩ := hA.new 8 (by decide) (by kernel_rfl)
              have e1 : a'.eval (.tmp 48) = .slice (some ⟨g, 0, none⟩) 3 3 := (sv_dst (l := _) rfl).symm.trans hg8
              have e2 : a'.eval (.tmp 49) = .int .i64 (0 : Nat) := (sv_dst (l := _) rfl).symm.trans (hA.new 9 (by decide) (by kernel_rfl))
              refine GoesG.value (.pointer (some ⟨g, 0, none⟩)) rfl ?_ (Below.refl _ _) (fun s h1 h2 => ⟨g, h1 rfl, hgc⟩)
              simp only [execOp, e1, e2]
              simp [go_sem]
            | 11, ho =>
              obtain rfl := Option.some.inj ho
              obtain ⟨g, hg8, hgc⟩ := hA.new 10 (by decide) (by kernel_rfl)
              have e1 : a'.eval (.tmp 50) = .pointer (some ⟨g, 0, none⟩) := (sv_dst (l := _) rfl).symm.trans hg8
              have c9 : W.cell? ⟨g, 0, none⟩ = some (.int .i64 x.a) := cell_of hgc rfl
              refine GoesG.value (.int .i64 x.a) rfl ?_ (Below.refl _ _) (fun s h1 h2 => h1 rfl)
              simp only [execOp, e1]
              simp [go_sem, c9]
            | 12, ho =>
              obtain rfl := Option.some.inj ho
              have e1 : a'.eval (.tmp 40) = .agg #[.slice fa nf fc, .slice oa no oc, .slice va nv vc, sV fnm, .int .i64 fpa, .int .i64 rg, .int .i64 fpr, .bool true, .slice ca cl cc] := (sv_dst (l := _) rfl).symm.trans (hA.new 0 (by decide) (by kernel_rfl))
              have e2 : a'.eval (.tmp 41) = .agg #[.int .i64 s.a.what, .int .i64 s.a.kind] := (sv_dst (l := _) rfl).symm.trans (hA.new 1 (by decide) (by kernel_rfl))
              have e3 : a'.eval (.tmp 51) = .int .i64 x.a := (sv_dst (l := _) rfl).symm.trans (hA.new 11 (by decide) (by kernel_rfl))
              refine GoesG.call 111 #[.agg #[.slice fa nf fc, .slice oa no oc, .slice va nv vc, sV fnm, .int .i64 fpa, .int .i64 rg, .int .i64 fpr, .bool true, .slice ca cl cc], .agg #[.int .i64 s.a.what, .int .i64 s.a.kind], .int .i64 x.a] rfl ?_ ((KA.out W (Ext.trans HWL.out (Ext.trans HE.out (Ext.trans hE5 hA.rel)))).mono ?_)
              · simp [execOp, resolve, invoke, Deferred.ofValue, e1, e2, e3]
                rfl
              · intro W1 hE1
                exact ⟨_, rfl, hE1, fun s h1 h2 => h1 rfl⟩
            | 13, ho =>
              obtain rfl := Option.some.inj ho
              have e1 : a'.eval (.tmp 52) = .int .i64 oa1 := (sv_dst (l := _) rfl).symm.trans (hA.new 12 (by decide) (by kernel_rfl))
              refine GoesG.value (.int .i64 oa1) rfl ?_ (Below.refl _ _) (fun s h1 h2 => h1 rfl)
              simp only [execOp, e1]
              simp [go_sem, d0_0, d0_1, d0_2, d0_3, d0_4, d0_5, d0_6, d0_7, d0_8, d1_0, d1_1, d1_2, d1_3, d1_4, o0, o1]
            | i + 14, ho => cases ho
          · intro vs w6 hvs hG hΦ
            obtain ⟨y0, y1, y2, y3, y4, y5, y6, y7, y8, y9, y10, y11, y12, y13, rfl⟩ := fourteen vs hvs
            have hy13 : y13 = .int .i64 oa1 := hΦ 13 (by decide)
            subst hy13
            have HE6 := Lib.hid (Ext.trans HE.out (Ext.trans hE5 hG))
            clear hΦ hvs hG hE5 hb5
            simp only [putAll, Act.put, List.setIfInBounds_toArray, List.set_cons_succ, List.set_cons_zero]
            by_cases ho : oa1 = 0
            · have HO := Lib.hid ho
              rw [ho]
              clear ho
              go_wp2
              go_roundw
              case rel => exact ⟨1, by omega, rfl, fun _ => HO.out, by omega, by omega, HE6.out⟩
              case measure => simp [intOf]
            · have HR := Lib.hid (show res = oa1 by rw [HCK.out, if_pos ho])
              have ho' : (oa1 != 0) = true := by rw [bne_iff_ne]; exact ho
              clear ho
              go_wp2
              go_ret
              exact ⟨by rw [HR.out]; rfl, Ext.trans HWL.out HE6.out⟩
        · subst hk0
          obtain ⟨⟨⟨d0_0, d0_1, d0_2, d0_3, d0_4, d0_5, d0_6, d0_7, d0_8, d1_0, d1_1, d1_2, d1_3, d1_4⟩, ⟨q0, q1, q2, q3, q4, q5, q6⟩⟩, ⟨g0, g1, g2, g3, g4, g5⟩⟩ := BL.out wr HE.out
          go_wp2_with fail
          clear d0_0 d0_1 d0_2 d0_3 d0_4 d0_5 d0_6 d0_7 d0_8 d1_0 d1_1 d1_2 d1_3 d1_4 q0 q1 q2 q3 q4 q5 q6 g0 g1 g2 g3 g4 g5
          obtain ⟨w5, hw5⟩ : ∃ W, W = wr.alloc (.cells #[.int .i64 s.b.what, .int .i64 s.b.kind] 170) := ⟨_, rfl⟩
          have hE5 : Ext wr w5 := by rw [hw5]; exact ext_alloc (Below.refl _ _) _
          have hb5 : w5.heap[wr.heap.size]? = some (.cells #[.int .i64 s.b.what, .int .i64 s.b.kind] 170 (0, 0)) := by rw [hw5]; exact alloc_here _ _
          rw [← hw5]
          clear hw5
          refine wp_region_g (l := [_, _, _, _, _, _, _, _, _, _, _, _, _, _]) (by kernel_rfl) Ext (fun W => ⟨rfl, rfl, rfl, Nat.le_refl _, fun _ _ => rfl⟩) Ext.trans (iR9 (.agg #[.slice fa nf fc, .slice oa no oc, .slice va nv vc, sV fnm, .int .i64 fpa, .int .i64 rg, .int .i64 fpr, .bool true, .slice ca cl cc]) (.agg #[.int .i64 s.b.what, .int .i64 s.b.kind]) (.pointer (some ⟨w.heap.size + 1, 1, none⟩)) (.pointer (some ⟨w.heap.size + 1, 2, none⟩)) (.pointer (some ⟨w.heap.size + 1, 3, none⟩)) x.a x.b x.c 1 x.b ob1) (fun i => [i]) (iR9_st _ _ _ _ _ _ _ _ _ _ _) (by kernel_rfl) (by kernel_rfl) (by kernel_rfl) 101 rfl (by kernel_rfl) ?_ ?_
          · intro i op ho a' W hA
            obtain ⟨⟨⟨d0_0, d0_1, d0_2, d0_3, d0_4, d0_5, d0_6, d0_7, d0_8, d1_0, d1_1, d1_2, d1_3, d1_4⟩, ⟨q0, q1, q2, q3, q4, q5, q6⟩⟩, ⟨g0, g1, g2, g3, g4, g5⟩⟩ := BL.out W (Ext.trans HE.out (Ext.trans hE5 hA.rel))
            have hk5 := (hA.rel.below.block _ (lt_of_block hb5)).trans hb5
            have o0 : W.cell? ⟨wr.heap.size, 0, none⟩ = some (.int .i64 s.b.what) := cell_of hk5 rfl
            have o1 : W.cell? ⟨wr.heap.size, 1, none⟩ = some (.int .i64 s.b.kind) := cell_of hk5 rfl
            match i, ho with
            | 0, ho =>
              obtain rfl := Option.some.inj ho
              have e1 : a'.eval (.tmp 2) = .pointer (some ⟨w.heap.size, 0, none⟩) := hA.keep 2 (by kernel_rfl)
              refine GoesG.value (.agg #[.slice fa nf fc, .slice oa no oc, .slice va nv vc, sV fnm, .int .i64 fpa, .int .i64 rg, .int .i64 fpr, .bool true, .slice ca cl cc]) rfl ?_ (Below.refl _ _) (fun s h1 h2 => h1 rfl)
              simp only [execOp, e1]
              simp [go_sem, d0_0, d0_1, d0_2, d0_3, d0_4, d0_5, d0_6, d0_7, d0_8, d1_0, d1_1, d1_2, d1_3, d1_4, o0, o1]
            | 1, ho =>
              obtain rfl := Option.some.inj ho
              have e1 : a'.eval (.tmp 8) = .pointer (some ⟨wr.heap.size, 0, none⟩) := hA.keep 8 (by kernel_rfl)
              refine GoesG.value (.agg #[.int .i64 s.b.what, .int .i64 s.b.kind]) rfl ?_ (Below.refl _ _) (fun s h1 h2 => h1 rfl)
              simp only [execOp, e1]
              simp [go_sem, d0_0, d0_1, d0_2, d0_3, d0_4, d0_5, d0_6, d0_7, d0_8, d1_0, d1_1, d1_2, d1_3, d1_4, o0, o1]
            | 2, ho =>
              obtain rfl := Option.some.inj ho
              have e1 : a'.eval (.tmp 3) = .pointer (some ⟨w.heap.size + 1, 0, none⟩) := hA.keep 3 (by kernel_rfl)
              refine GoesG.value (.pointer (some ⟨w.heap.size + 1, 1, none⟩)) rfl ?_ (Below.refl _ _) (fun s h1 h2 => h1 rfl)
              simp only [execOp, e1]
              simp [go_sem, d0_0, d0_1, d0_2, d0_3, d0_4, d0_5, d0_6, d0_7, d0_8, d1_0, d1_1, d1_2, d1_3, d1_4, o0, o1]
            | 3, ho =>
              obtain rfl := Option.some.inj ho
              have e1 : a'.eval (.tmp 42) = .pointer (some ⟨w.heap.size + 1, 1, none⟩) := (sv_dst (l := _) rfl).symm.trans (hA.new 2 (by decide) (by kernel_rfl))
              refine GoesG.value (.int .i64 x.a) rfl ?_ (Below.refl _ _) (fun s h1 h2 => h1 rfl)
              simp only [execOp, e1]
              simp [go_sem, d0_0, d0_1, d0_2, d0_3, d0_4, d0_5, d0_6, d0_7, d0_8, d1_0, d1_1, d1_2, d1_3, d1_4, o0, o1]
            | 4, ho =>
              obtain rfl := Option.some.inj ho
              have e1 : a'.eval (.tmp 3) = .pointer (some ⟨w.heap.size + 1, 0, none⟩) := hA.keep 3 (by kernel_rfl)
              refine GoesG.value (.pointer (some ⟨w.heap.size + 1, 2, none⟩)) rfl ?_ (Below.refl _ _) (fun s h1 h2 => h1 rfl)
              simp only [execOp, e1]
              simp [go_sem, d0_0, d0_1, d0_2, d0_3, d0_4, d0_5, d0_6, d0_7, d0_8, d1_0, d1_1, d1_2, d1_3, d1_4, o0, o1]
            | 5, ho =>
              obtain rfl := Option.some.inj ho
              have e1 : a'.eval (.tmp 44) = .pointer (some ⟨w.heap.size + 1, 2, none⟩) := (sv_dst (l := _) rfl).symm.trans (hA.new 4 (by decide) (by kernel_rfl))
              refine GoesG.value (.int .i64 x.b) rfl ?_ (Below.refl _ _) (fun s h1 h2 => h1 rfl)
              simp only [execOp, e1]
              simp [go_sem, d0_0, d0_1, d0_2, d0_3, d0_4, d0_5, d0_6, d0_7, d0_8, d1_0, d1_1, d1_2, d1_3, d1_4, o0, o1]
            | 6, ho =>
              obtain rfl := Option.some.inj ho
              have e1 : a'.eval (.tmp 3) = .pointer (some ⟨w.heap.size + 1, 0, none⟩) := hA.keep 3 (by kernel_rfl)
              refine GoesG.value (.pointer (some ⟨w.heap.size + 1, 3, none⟩)) rfl ?_ (Below.refl _ _) (fun s h1 h2 => h1 rfl)
              simp only [execOp, e1]
              simp [go_sem, d0_0, d0_1, d0_2, d0_3, d0_4, d0_5, d0_6, d0_7, d0_8, d1_0, d1_1, d1_2, d1_3, d1_4, o0, o1]
            | 7, ho =>
              obtain rfl := Option.some.inj ho
              have e1 : a'.eval (.tmp 46) = .pointer (some ⟨w.heap.size + 1, 3, none⟩) := (sv_dst (l := _) rfl).symm.trans (hA.new 6 (by decide) (by kernel_rfl))
              refine GoesG.value (.int .i64 x.c) rfl ?_ (Below.refl _ _) (fun s h1 h2 => h1 rfl)
              simp only [execOp, e1]
              simp [go_sem, d0_0, d0_1, d0_2, d0_3, d0_4, d0_5, d0_6, d0_7, d0_8, d1_0, d1_1, d1_2, d1_3, d1_4, o0, o1]
            | 8, ho =>
              obtain rfl := Option.some.inj ho
              have e1 : a'.eval (.tmp 43) = .int .i64 x.a := (sv_dst (l := _) rfl).symm.trans (hA.new 3 (by decide) (by kernel_rfl))
              have e2 : a'.eval (.tmp 45) = .int .i64 x.b := (sv_dst (l := _) rfl).symm.trans (hA.new 5 (by decide) (by kernel_rfl))
              have e3 : a'.eval (.tmp 47) = .int .i64 x.c := (sv_dst (l := _) rfl).symm.trans (hA.new 7 (by decide) (by kernel_rfl))
              have f1 : a'.tmps[43]?.getD undef = .int .i64 x.a := by rw [← e1]; simp [Act.eval, Array.getD_eq_getD_getElem?]
              have f2 : a'.tmps[45]?.getD undef = .int .i64 x.b := by rw [← e2]; simp [Act.eval, Array.getD_eq_getD_getElem?]
              have f3 : a'.tmps[47]?.getD undef = .int .i64 x.c := by rw [← e3]; simp [Act.eval, Array.getD_eq_getD_getElem?]
              refine GoesG.value (.slice (some ⟨W.heap.size, 0, none⟩) 3 3) (W' := W.alloc (.cells #[.int .i64 x.a, .int .i64 x.b, .int .i64 x.c] 3)) rfl ?_ (ext_alloc (Below.refl _ _) _) (fun s h1 h2 => ⟨W.heap.size, h1 rfl, alloc_here _ _⟩)
              simp only [execOp]
              simp [go_sem, f1, f2, f3]
            | 9, ho =>
              obtain rfl := Option.some.inj ho
              have e1 : a'.eval (.tmp 7) = .int .i64 1 := hA.keep 7 (by kernel_rfl)
              refine GoesG.value (.int .i64 1) rfl ?_ (Below.refl _ _) (fun s h1 h2 => h1 rfl)
              simp only [execOp, e1]
              simp [go_sem, d0_0, d0_1, d0_2, d0_3, d0_4, d0_5, d0_6, d0_7, d0_8, d1_0, d1_1, d1_2, d1_3, d1_4, o0, o1]
            | 10, ho =>
              obtain rfl := Option.some.inj ho
              obtain ⟨g, hg8, hgc⟩ := hA.new 8 (by decide) (by kernel_rfl)
              have e1 : a'.eval (.tmp 48) = .slice (some ⟨g, 0, none⟩) 3 3 := (sv_dst (l := _) rfl).symm.trans hg8
              have e2 : a'.eval (.tmp 49) = .int .i64 (1 : Nat) := (sv_dst (l := _) rfl).symm.trans (hA.new 9 (by decide) (by kernel_rfl))
              refine GoesG.value (.pointer (some ⟨g, 1, none⟩)) rfl ?_ (Below.refl _ _) (fun s h1 h2 => ⟨g, h1 rfl, hgc⟩)
              simp only [execOp, e1, e2]
              simp [go_sem]
            | 11, ho =>
              obtain rfl := Option.some.inj ho
              obtain ⟨g, hg8, hgc⟩ := hA.new 10 (by decide) (by kernel_rfl)
              have e1 : a'.eval (.tmp 50) = .pointer (some ⟨g, 1, none⟩) := (sv_dst (l := _) rfl).symm.trans hg8
              have c9 : W.cell? ⟨g, 1, none⟩ = some (.int .i64 x.b) := cell_of hgc rfl
              refine GoesG.value (.int .i64 x.b) rfl ?_ (Below.refl _ _) (fun s h1 h2 => h1 rfl)
              simp only [execOp, e1]
              simp [go_sem, c9]
            | 12, ho =>
              obtain rfl := Option.some.inj ho
              have e1 : a'.eval (.tmp 40) = .agg #[.slice fa nf fc, .slice oa no oc, .slice va nv vc, sV fnm, .int .i64 fpa, .int .i64 rg, .int .i64 fpr, .bool true, .slice ca cl cc] := (sv_dst (l := _) rfl).symm.trans (hA.new 0 (by decide) (by kernel_rfl))
              have e2 : a'.eval (.tmp 41) = .agg #[.int .i64 s.b.what, .int .i64 s.b.kind] := (sv_dst (l := _) rfl).symm.trans (hA.new 1 (by decide) (by kernel_rfl))
              have e3 : a'.eval (.tmp 51) = .int .i64 x.b := (sv_dst (l := _) rfl).symm.trans (hA.new 11 (by decide) (by kernel_rfl))
              refine GoesG.call 111 #[.agg #[.slice fa nf fc, .slice oa no oc, .slice va nv vc, sV fnm, .int .i64 fpa, .int .i64 rg, .int .i64 fpr, .bool true, .slice ca cl cc], .agg #[.int .i64 s.b.what, .int .i64 s.b.kind], .int .i64 x.b] rfl ?_ ((KB.out W (Ext.trans HWL.out (Ext.trans HE.out (Ext.trans hE5 hA.rel)))).mono ?_)
              · simp [execOp, resolve, invoke, Deferred.ofValue, e1, e2, e3]
                rfl
              · intro W1 hE1
                exact ⟨_, rfl, hE1, fun s h1 h2 => h1 rfl⟩
            | 13, ho =>
              obtain rfl := Option.some.inj ho
              have e1 : a'.eval (.tmp 52) = .int .i64 ob1 := (sv_dst (l := _) rfl).symm.trans (hA.new 12 (by decide) (by kernel_rfl))
              refine GoesG.value (.int .i64 ob1) rfl ?_ (Below.refl _ _) (fun s h1 h2 => h1 rfl)
              simp only [execOp, e1]
              simp [go_sem, d0_0, d0_1, d0_2, d0_3, d0_4, d0_5, d0_6, d0_7, d0_8, d1_0, d1_1, d1_2, d1_3, d1_4, o0, o1]
            | i + 14, ho => cases ho
          · intro vs w6 hvs hG hΦ
            obtain ⟨y0, y1, y2, y3, y4, y5, y6, y7, y8, y9, y10, y11, y12, y13, rfl⟩ := fourteen vs hvs
            have hy13 : y13 = .int .i64 ob1 := hΦ 13 (by decide)
            subst hy13
            have HE6 := Lib.hid (Ext.trans HE.out (Ext.trans hE5 hG))
            clear hΦ hvs hG hE5 hb5
            simp only [putAll, Act.put, List.setIfInBounds_toArray, List.set_cons_succ, List.set_cons_zero]
            by_cases ho : ob1 = 0
            · have HO := Lib.hid ho
              rw [ho]
              clear ho
              go_wp2
              go_roundw
              case rel => exact ⟨2, by omega, rfl, fun _ => ha (by omega), fun _ => HO.out, by omega, HE6.out⟩
              case measure => simp [intOf]
            · have HR := Lib.hid (show res = ob1 by rw [HCK.out, if_neg (not_not_intro (ha (by omega))), if_pos ho])
              have ho' : (ob1 != 0) = true := by rw [bne_iff_ne]; exact ho
              clear ho
              go_wp2
              go_ret
              exact ⟨by rw [HR.out]; rfl, Ext.trans HWL.out HE6.out⟩
        · subst hk0
          obtain ⟨⟨⟨d0_0, d0_1, d0_2, d0_3, d0_4, d0_5, d0_6, d0_7, d0_8, d1_0, d1_1, d1_2, d1_3, d1_4⟩, ⟨q0, q1, q2, q3, q4, q5, q6⟩⟩, ⟨g0, g1, g2, g3, g4, g5⟩⟩ := BL.out wr HE.out
          go_wp2_with fail
          clear d0_0 d0_1 d0_2 d0_3 d0_4 d0_5 d0_6 d0_7 d0_8 d1_0 d1_1 d1_2 d1_3 d1_4 q0 q1 q2 q3 q4 q5 q6 g0 g1 g2 g3 g4 g5
          obtain ⟨w5, hw5⟩ : ∃ W, W = wr.alloc (.cells #[.int .i64 s.c.what, .int .i64 s.c.kind] 170) := ⟨_, rfl⟩
          have hE5 : Ext wr w5 := by rw [hw5]; exact ext_alloc (Below.refl _ _) _
          have hb5 : w5.heap[wr.heap.size]? = some (.cells #[.int .i64 s.c.what, .int .i64 s.c.kind] 170 (0, 0)) := by rw [hw5]; exact alloc_here _ _
          rw [← hw5]
          clear hw5
          refine wp_region_g (l := [_, _, _, _, _, _, _, _, _, _, _, _, _, _]) (by kernel_rfl) Ext (fun W => ⟨rfl, rfl, rfl, Nat.le_refl _, fun _ _ => rfl⟩) Ext.trans (iR9 (.agg #[.slice fa nf fc, .slice oa no oc, .slice va nv vc, sV fnm, .int .i64 fpa, .int .i64 rg, .int .i64 fpr, .bool true, .slice ca cl cc]) (.agg #[.int .i64 s.c.what, .int .i64 s.c.kind]) (.pointer (some ⟨w.heap.size + 1, 1, none⟩)) (.pointer (some ⟨w.heap.size + 1, 2, none⟩)) (.pointer (some ⟨w.heap.size + 1, 3, none⟩)) x.a x.b x.c 2 x.c oc1) (fun i => [i]) (iR9_st _ _ _ _ _ _ _ _ _ _ _) (by kernel_rfl) (by kernel_rfl) (by kernel_rfl) 101 rfl (by kernel_rfl) ?_ ?_
          · intro i op ho a' W hA
            obtain ⟨⟨⟨d0_0, d0_1, d0_2, d0_3, d0_4, d0_5, d0_6, d0_7, d0_8, d1_0, d1_1, d1_2, d1_3, d1_4⟩, ⟨q0, q1, q2, q3, q4, q5, q6⟩⟩, ⟨g0, g1, g2, g3, g4, g5⟩⟩ := BL.out W (Ext.trans HE.out (Ext.trans hE5 hA.rel))
            have hk5 := (hA.rel.below.block _ (lt_of_block hb5)).trans hb5
            have o0 : W.cell? ⟨wr.heap.size, 0, none⟩ = some (.int .i64 s.c.what) := cell_of hk5 rfl
            have o1 : W.cell? ⟨wr.heap.size, 1, none⟩ = some (.int .i64 s.c.kind) := cell_of hk5 rfl
            match i, ho with
            | 0, ho =>
              obtain rfl := Option.some.inj ho
              have e1 : a'.eval (.tmp 2) = .pointer (some ⟨w.heap.size, 0, none⟩) := hA.keep 2 (by kernel_rfl)
              refine GoesG.value (.agg #[.slice fa nf fc, .slice oa no oc, .slice va nv vc, sV fnm, .int .i64 fpa, .int .i64 rg, .int .i64 fpr, .bool true, .slice ca cl cc]) rfl ?_ (Below.refl _ _) (fun s h1 h2 => h1 rfl)
              simp only [execOp, e1]
              simp [go_sem, d0_0, d0_1, d0_2, d0_3, d0_4, d0_5, d0_6, d0_7, d0_8, d1_0, d1_1, d1_2, d1_3, d1_4, o0, o1]
            | 1, ho =>
              obtain rfl := Option.some.inj ho
              have e1 : a'.eval (.tmp 8) = .pointer (some ⟨wr.heap.size, 0, none⟩) := hA.keep 8 (by kernel_rfl)
              refine GoesG.value (.agg #[.int .i64 s.c.what, .int .i64 s.c.kind]) rfl ?_ (Below.refl _ _) (fun s h1 h2 => h1 rfl)
              simp only [execOp, e1]
              simp [go_sem, d0_0, d0_1, d0_2, d0_3, d0_4, d0_5, d0_6, d0_7, d0_8, d1_0, d1_1, d1_2, d1_3, d1_4, o0, o1]
            | 2, ho =>
              obtain rfl := Option.some.inj ho
              have e1 : a'.eval (.tmp 3) = .pointer (some ⟨w.heap.size + 1, 0, none⟩) := hA.keep 3 (by kernel_rfl)
              refine GoesG.value (.pointer (some ⟨w.heap.size + 1, 1, none⟩)) rfl ?_ (Below.refl _ _) (fun s h1 h2 => h1 rfl)
              simp only [execOp, e1]
              simp [go_sem, d0_0, d0_1, d0_2, d0_3, d0_4, d0_5, d0_6, d0_7, d0_8, d1_0, d1_1, d1_2, d1_3, d1_4, o0, o1]
            | 3, ho =>
              obtain rfl := Option.some.inj ho
              have e1 : a'.eval (.tmp 42) = .pointer (some ⟨w.heap.size + 1, 1, none⟩) := (sv_dst (l := _) rfl).symm.trans (hA.new 2 (by decide) (by kernel_rfl))
              refine GoesG.value (.int .i64 x.a) rfl ?_ (Below.refl _ _) (fun s h1 h2 => h1 rfl)
              simp only [execOp, e1]
              simp [go_sem, d0_0, d0_1, d0_2, d0_3, d0_4, d0_5, d0_6, d0_7, d0_8, d1_0, d1_1, d1_2, d1_3, d1_4, o0, o1]
            | 4, ho =>
              obtain rfl := Option.some.inj ho
              have e1 : a'.eval (.tmp 3) = .pointer (some ⟨w.heap.size + 1, 0, none⟩) := hA.keep 3 (by kernel_rfl)
              refine GoesG.value (.pointer (some ⟨w.heap.size + 1, 2, none⟩)) rfl ?_ (Below.refl _ _) (fun s h1 h2 => h1 rfl)
              simp only [execOp, e1]
              simp [go_sem, d0_0, d0_1, d0_2, d0_3, d0_4, d0_5, d0_6, d0_7, d0_8, d1_0, d1_1, d1_2, d1_3, d1_4, o0, o1]
            | 5, ho =>
              obtain rfl := Option.some.inj ho
              have e1 : a'.eval (.tmp 44) = .pointer (some ⟨w.heap.size + 1, 2, none⟩) := (sv_dst (l := _) rfl).symm.trans (hA.new 4 (by decide) (by kernel_rfl))
              refine GoesG.value (.int .i64 x.b) rfl ?_ (Below.refl _ _) (fun s h1 h2 => h1 rfl)
              simp only [execOp, e1]
              simp [go_sem, d0_0, d0_1, d0_2, d0_3, d0_4, d0_5, d0_6, d0_7, d0_8, d1_0, d1_1, d1_2, d1_3, d1_4, o0, o1]
            | 6, ho =>
              obtain rfl := Option.some.inj ho
              have e1 : a'.eval (.tmp 3) = .pointer (some ⟨w.heap.size + 1, 0, none⟩) := hA.keep 3 (by kernel_rfl)
              refine GoesG.value (.pointer (some ⟨w.heap.size + 1, 3, none⟩)) rfl ?_ (Below.refl _ _) (fun s h1 h2 => h1 rfl)
              simp only [execOp, e1]
              simp [go_sem, d0_0, d0_1, d0_2, d0_3, d0_4, d0_5, d0_6, d0_7, d0_8, d1_0, d1_1, d1_2, d1_3, d1_4, o0, o1]
            | 7, ho =>
              obtain rfl := Option.some.inj ho
              have e1 : a'.eval (.tmp 46) = .pointer (some ⟨w.heap.size + 1, 3, none⟩) := (sv_dst (l := _) rfl).symm.trans (hA.new 6 (by decide) (by kernel_rfl))
              refine GoesG.value (.int .i64 x.c) rfl ?_ (Below.refl _ _) (fun s h1 h2 => h1 rfl)
              simp only [execOp, e1]
              simp [go_sem, d0_0, d0_1, d0_2, d0_3, d0_4, d0_5, d0_6, d0_7, d0_8, d1_0, d1_1, d1_2, d1_3, d1_4, o0, o1]
            | 8, ho =>
              obtain rfl := Option.some.inj ho
              have e1 : a'.eval (.tmp 43) = .int .i64 x.a := (sv_dst (l := _) rfl).symm.trans (hA.new 3 (by decide) (by kernel_rfl))
              have e2 : a'.eval (.tmp 45) = .int .i64 x.b := (sv_dst (l := _) rfl).symm.trans (hA.new 5 (by decide) (by kernel_rfl))
              have e3 : a'.eval (.tmp 47) = .int .i64 x.c := (sv_dst (l := _) rfl).symm.trans (hA.new 7 (by decide) (by kernel_rfl))
              have f1 : a'.tmps[43]?.getD undef = .int .i64 x.a := by rw [← e1]; simp [Act.eval, Array.getD_eq_getD_getElem?]
              have f2 : a'.tmps[45]?.getD undef = .int .i64 x.b := by rw [← e2]; simp [Act.eval, Array.getD_eq_getD_getElem?]
              have f3 : a'.tmps[47]?.getD undef = .int .i64 x.c := by rw [← e3]; simp [Act.eval, Array.getD_eq_getD_getElem?]
              refine GoesG.value (.slice (some ⟨W.heap.size, 0, none⟩) 3 3) (W' := W.alloc (.cells #[.int .i64 x.a, .int .i64 x.b, .int .i64 x.c] 3)) rfl ?_ (ext_alloc (Below.refl _ _) _) (fun s h1 h2 => ⟨W.heap.size, h1 rfl, alloc_here _ _⟩)
              simp only [execOp]
              simp [go_sem, f1, f2, f3]
            | 9, ho =>
              obtain rfl := Option.some.inj ho
              have e1 : a'.eval (.tmp 7) = .int .i64 2 := hA.keep 7 (by kernel_rfl)
              refine GoesG.value (.int .i64 2) rfl ?_ (Below.refl _ _) (fun s h1 h2 => h1 rfl)
              simp only [execOp, e1]
              simp [go_sem, d0_0, d0_1, d0_2, d0_3, d0_4, d0_5, d0_6, d0_7, d0_8, d1_0, d1_1, d1_2, d1_3, d1_4, o0, o1]
            | 10, ho =>
              obtain rfl := Option.some.inj ho
              obtain ⟨g, hg8, hgc⟩ := hA.new 8 (by decide) (by kernel_rfl)
              have e1 : a'.eval (.tmp 48) = .slice (some ⟨g, 0, none⟩) 3 3 := (sv_dst (l := _) rfl).symm.trans hg8
              have e2 : a'.eval (.tmp 49) = .int .i64 (2 : Nat) := (sv_dst (l := _) rfl).symm.trans (hA.new 9 (by decide) (by kernel_rfl))
              refine GoesG.value (.pointer (some ⟨g, 2, none⟩)) rfl ?_ (Below.refl _ _) (fun s h1 h2 => ⟨g, h1 rfl, hgc⟩)
              simp only [execOp, e1, e2]
              simp [go_sem]
            | 11, ho =>
              obtain rfl := Option.some.inj ho
              obtain ⟨g, hg8, hgc⟩ := hA.new 10 (by decide) (by kernel_rfl)
              have e1 : a'.eval (.tmp 50) = .pointer (some ⟨g, 2, none⟩) := (sv_dst (l := _) rfl).symm.trans hg8
              have c9 : W.cell? ⟨g, 2, none⟩ = some (.int .i64 x.c) := cell_of hgc rfl
              refine GoesG.value (.int .i64 x.c) rfl ?_ (Below.refl _ _) (fun s h1 h2 => h1 rfl)
              simp only [execOp, e1]
              simp [go_sem, c9]
            | 12, ho =>
              obtain rfl := Option.some.inj ho
              have e1 : a'.eval (.tmp 40) = .agg #[.slice fa nf fc, .slice oa no oc, .slice va nv vc, sV fnm, .int .i64 fpa, .int .i64 rg, .int .i64 fpr, .bool true, .slice ca cl cc] := (sv_dst (l := _) rfl).symm.trans (hA.new 0 (by decide) (by kernel_rfl))
              have e2 : a'.eval (.tmp 41) = .agg #[.int .i64 s.c.what, .int .i64 s.c.kind] := (sv_dst (l := _) rfl).symm.trans (hA.new 1 (by decide) (by kernel_rfl))
              have e3 : a'.eval (.tmp 51) = .int .i64 x.c := (sv_dst (l := _) rfl).symm.trans (hA.new 11 (by decide) (by kernel_rfl))
              refine GoesG.call 111 #[.agg #[.slice fa nf fc, .slice oa no oc, .slice va nv vc, sV fnm, .int .i64 fpa, .int .i64 rg, .int .i64 fpr, .bool true, .slice ca cl cc], .agg #[.int .i64 s.c.what, .int .i64 s.c.kind], .int .i64 x.c] rfl ?_ ((KC.out W (Ext.trans HWL.out (Ext.trans HE.out (Ext.trans hE5 hA.rel)))).mono ?_)
              · simp [execOp, resolve, invoke, Deferred.ofValue, e1, e2, e3]
                rfl
              · intro W1 hE1
                exact ⟨_, rfl, hE1, fun s h1 h2 => h1 rfl⟩
            | 13, ho =>
              obtain rfl := Option.some.inj ho
              have e1 : a'.eval (.tmp 52) = .int .i64 oc1 := (sv_dst (l := _) rfl).symm.trans (hA.new 12 (by decide) (by kernel_rfl))
              refine GoesG.value (.int .i64 oc1) rfl ?_ (Below.refl _ _) (fun s h1 h2 => h1 rfl)
              simp only [execOp, e1]
              simp [go_sem, d0_0, d0_1, d0_2, d0_3, d0_4, d0_5, d0_6, d0_7, d0_8, d1_0, d1_1, d1_2, d1_3, d1_4, o0, o1]
            | i + 14, ho => cases ho
          · intro vs w6 hvs hG hΦ
            obtain ⟨y0, y1, y2, y3, y4, y5, y6, y7, y8, y9, y10, y11, y12, y13, rfl⟩ := fourteen vs hvs
            have hy13 : y13 = .int .i64 oc1 := hΦ 13 (by decide)
            subst hy13
            have HE6 := Lib.hid (Ext.trans HE.out (Ext.trans hE5 hG))
            clear hΦ hvs hG hE5 hb5
            simp only [putAll, Act.put, List.setIfInBounds_toArray, List.set_cons_succ, List.set_cons_zero]
            by_cases ho : oc1 = 0
            · have HO := Lib.hid ho
              rw [ho]
              clear ho
              go_wp2
              go_roundw
              case rel => exact ⟨3, by omega, rfl, fun _ => ha (by omega), fun _ => hb (by omega), fun _ => HO.out, HE6.out⟩
              case measure => simp [intOf]
            · have HR := Lib.hid (show res = oc1 by rw [HCK.out, if_neg (not_not_intro (ha (by omega))), if_neg (not_not_intro (hb (by omega))), if_pos ho])
              have ho' : (oc1 != 0) = true := by rw [bne_iff_ne]; exact ho
              clear ho
              go_wp2
              go_ret
              exact ⟨by rw [HR.out]; rfl, Ext.trans HWL.out HE6.out⟩
        · subst hk0
          have ha := ha (by omega)
          have hb := hb (by omega)
          have hc := hc (by omega)
          rw [if_neg (not_not_intro ha), if_neg (not_not_intro hb), if_neg (not_not_intro hc)] at HCK
          obtain ⟨⟨⟨d0_0, d0_1, d0_2, d0_3, d0_4, d0_5, d0_6, d0_7, d0_8, d1_0, d1_1, d1_2, d1_3, d1_4⟩, ⟨q0, q1, q2, q3, q4, q5, q6⟩⟩, ⟨g0, g1, g2, g3, g4, g5⟩⟩ := BL.out wr HE.out
          have KG := Lib.hid (KG.out wr (Ext.trans HWL.out HE.out) hb)
          clear ha hb hc
          go_wp2_with fail
          clear d0_0 d0_1 d0_2 d0_3 d0_4 d0_5 d0_6 d0_7 d0_8 d1_0 d1_1 d1_2 d1_3 d1_4 q0 q1 q2 q3 q4 q5 q6 g0 g1 g2 g3 g4 g5
          refine KG.out.mono ?_
          intro w6 hB
          have HE6 := Lib.hid (Ext.trans HE.out hB)
          clear hB
          obtain ⟨⟨⟨d0_0, d0_1, d0_2, d0_3, d0_4, d0_5, d0_6, d0_7, d0_8, d1_0, d1_1, d1_2, d1_3, d1_4⟩, ⟨q0, q1, q2, q3, q4, q5, q6⟩⟩, ⟨g0, g1, g2, g3, g4, g5⟩⟩ := BL.out w6 HE6.out
          by_cases har : ar1 = 0
          · rw [if_neg (not_not_intro har)] at HCK
            subst har
            by_cases h65 : x.op = 65
            · have n67 : (x.op == 67) = false := by rw [h65]; decide
              have n65 : (x.op == 65) = true := by rw [h65]; decide
              by_cases hac : x.a = x.c
              · have g1 : (x.a == x.c) = true := by simpa using hac
                have HR := Lib.hid (show res = 16 by rw [HCK.out, if_pos (.inl ⟨h65, hac⟩)])
                clear hac h65
                go_wp2
                go_ret
                exact ⟨by rw [HR.out]; rfl, Ext.trans HWL.out HE6.out⟩
              · have g1 : (x.a == x.c) = false := by simpa using hac
                have HR := Lib.hid (show res = 0 by rw [HCK.out, if_neg (by rintro (⟨_, e⟩ | ⟨e, _⟩); exact hac e; omega)])
                clear hac h65
                go_wp2
                go_ret
                exact ⟨by rw [HR.out]; rfl, Ext.trans HWL.out HE6.out⟩
            · have n65 : (x.op == 65) = false := by simpa using h65
              by_cases h67 : x.op = 67
              · have n67 : (x.op == 67) = true := by simpa using h67
                by_cases hab : x.a = x.b
                · have g1 : (x.a == x.b) = true := by simpa using hab
                  have HR := Lib.hid (show res = 16 by rw [HCK.out, if_pos (.inr ⟨h67, .inl hab⟩)])
                  clear hab h67 h65
                  go_wp2
                  go_ret
                  exact ⟨by rw [HR.out]; rfl, Ext.trans HWL.out HE6.out⟩
                · have g1 : (x.a == x.b) = false := by simpa using hab
                  by_cases hac : x.a = x.c
                  · have g2 : (x.a == x.c) = true := by simpa using hac
                    have HR := Lib.hid (show res = 16 by rw [HCK.out, if_pos (.inr ⟨h67, .inr (.inl hac)⟩)])
                    clear hab hac h67 h65
                    go_wp2
                    go_ret
                    exact ⟨by rw [HR.out]; rfl, Ext.trans HWL.out HE6.out⟩
                  · have g2 : (x.a == x.c) = false := by simpa using hac
                    by_cases hbc : x.b = x.c
                    · have g3 : (x.b == x.c) = true := by simpa using hbc
                      have HR := Lib.hid (show res = 16 by rw [HCK.out, if_pos (.inr ⟨h67, .inr (.inr hbc)⟩)])
                      clear hab hac hbc h67 h65
                      go_wp2
                      go_ret
                      exact ⟨by rw [HR.out]; rfl, Ext.trans HWL.out HE6.out⟩
                    · have g3 : (x.b == x.c) = false := by simpa using hbc
                      have HR := Lib.hid (show res = 0 by rw [HCK.out, if_neg (by rintro (⟨e, _⟩ | ⟨_, e | e | e⟩); exact h65 e; exact hab e; exact hac e; exact hbc e)])
                      clear hab hac hbc h67 h65
                      go_wp2
                      go_ret
                      exact ⟨by rw [HR.out]; rfl, Ext.trans HWL.out HE6.out⟩
              · have n67 : (x.op == 67) = false := by simpa using h67
                have HR := Lib.hid (show res = 0 by rw [HCK.out, if_neg (by rintro (⟨e, _⟩ | ⟨e, _⟩); exact h65 e; exact h67 e)])
                clear h67 h65
                go_wp2
                go_ret
                exact ⟨by rw [HR.out]; rfl, Ext.trans HWL.out HE6.out⟩
          · have HR := Lib.hid (show res = ar1 by rw [HCK.out, if_pos har])
            have ho' : (ar1 != 0) = true := by rw [bne_iff_ne]; exact har
            clear har
            go_wp2
            go_ret
            exact ⟨by rw [HR.out]; rfl, Ext.trans HWL.out HE6.out⟩

end Go.Proofs.YtfkjokbhnblndaaGreatDoor
