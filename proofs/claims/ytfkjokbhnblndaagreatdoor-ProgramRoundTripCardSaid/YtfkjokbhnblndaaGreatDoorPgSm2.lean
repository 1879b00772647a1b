/- The reference's sameInstr. -/
import Derived.Test.YtfkjokbhnblndaaGreatDoorPgSm1
import Derived.Test.YtfkjokbhnblndaaGreatDoorPgU
namespace Go.Proofs.YtfkjokbhnblndaaGreatDoor
open Go.RowKit
set_option linter.unusedVariables false
set_option linter.unusedSimpArgs false

set_option maxRecDepth 100000 in
set_option maxHeartbeats 2000000 in
theorem sameIns_any (x y : Ins) (xa ya : Option Addr) (xc yc : Nat) (w : World) (hx : IntsAt w xa x.args) (hy : IntsAt w ya y.args) (hlx : x.args.length ≤ 17592186044416) (hly : y.args.length ≤ 17592186044416) :
    Gives Tryz.prog 34 #[IV x xa xc, IV y ya yc] w (.bool (x.op == y.op && (x.a == y.a && (x.b == y.b && (x.c == y.c && (x.args == y.args)))))) := by
  unfold Gives
  have KS := Lib.hid (fun W (hW : Ext w W) => sameI_any x.args y.args xa ya xc yc W (by unfold maxLen; omega) (by unfold maxLen; omega) (hx.below hW) (hy.below hW))
  clear hx hy hlx hly
  dsimp only [IV]
  obtain ⟨wk, hwk⟩ : ∃ W, W = ((w.alloc (.cells #[.int .i64 x.op, .int .i64 x.a, .int .i64 x.b, .int .i64 x.c, .slice xa x.args.length xc] 50)).alloc (.cells #[.int .i64 y.op, .int .i64 y.a, .int .i64 y.b, .int .i64 y.c, .slice ya y.args.length yc] 50)) := ⟨_, rfl⟩
  have BX := Lib.hid (show ∀ W, Ext wk W → (W.cell? ⟨w.heap.size, 0, none⟩ = some (.int .i64 x.op) ∧ W.cell? ⟨w.heap.size, 1, none⟩ = some (.int .i64 x.a) ∧ W.cell? ⟨w.heap.size, 2, none⟩ = some (.int .i64 x.b) ∧ W.cell? ⟨w.heap.size, 3, none⟩ = some (.int .i64 x.c) ∧ W.cell? ⟨w.heap.size, 4, none⟩ = some (.slice xa x.args.length xc) ∧ W.cell? ⟨w.heap.size + 1, 0, none⟩ = some (.int .i64 y.op) ∧ W.cell? ⟨w.heap.size + 1, 1, none⟩ = some (.int .i64 y.a) ∧ W.cell? ⟨w.heap.size + 1, 2, none⟩ = some (.int .i64 y.b) ∧ W.cell? ⟨w.heap.size + 1, 3, none⟩ = some (.int .i64 y.c) ∧ W.cell? ⟨w.heap.size + 1, 4, none⟩ = some (.slice ya y.args.length yc)) from fun W hW => by
    subst hwk
    have h0 := alloc_here w (.cells #[.int .i64 x.op, .int .i64 x.a, .int .i64 x.b, .int .i64 x.c, .slice xa x.args.length xc] 50)
    have h0 := (Below.heap_alloc _ (.cells #[.int .i64 y.op, .int .i64 y.a, .int .i64 y.b, .int .i64 y.c, .slice ya y.args.length yc] 50) _ (lt_of_block h0)).trans h0
    have k0 := (hW.below.block _ (lt_of_block h0)).trans h0
    have h1 := alloc_here (w.alloc (.cells #[.int .i64 x.op, .int .i64 x.a, .int .i64 x.b, .int .i64 x.c, .slice xa x.args.length xc] 50)) (.cells #[.int .i64 y.op, .int .i64 y.a, .int .i64 y.b, .int .i64 y.c, .slice ya y.args.length yc] 50)
    simp only [World.size_alloc] at h1
    have k1 := (hW.below.block _ (lt_of_block h1)).trans h1
    exact ⟨cell_of k0 rfl, cell_of k0 rfl, cell_of k0 rfl, cell_of k0 rfl, cell_of k0 rfl, cell_of k1 rfl, cell_of k1 rfl, cell_of k1 rfl, cell_of k1 rfl, cell_of k1 rfl⟩)
  have HWZ := Lib.hid (show wk.heap.size = w.heap.size + 2 by rw [hwk]; simp)
  have HW := Lib.hid (show Ext w wk by rw [hwk]; exact (ext_alloc (ext_alloc (Below.refl _ _) _) _))
  have HE0 := Lib.hid (show Ext wk wk from Below.refl _ _)
  obtain ⟨r, hr⟩ : ∃ r, (x.op == y.op && (x.a == y.a && (x.b == y.b && (x.c == y.c && (x.args == y.args))))) = r := ⟨_, rfl⟩
  rw [hr]
  have HR := Lib.hid hr.symm
  clear hr
  by_cases h0 : x.op = y.op
  case neg =>
    have g0 : (x.op == y.op) = false := beq_eq_false_iff_ne.2 h0
    have HV := Lib.hid (show r = false from by rw [HR.out, g0]; simp)
    clear h0
    go_enter Tryz.func34, Tryz.ntmps34
    go_wp2
    rw [← hwk]
    go_ret
    exact ⟨by rw [HV.out]; rfl, HW.out⟩
  case pos =>
    have g0 : (x.op == y.op) = true := beq_iff_eq.2 h0
    clear h0
    by_cases h1 : x.a = y.a
    case neg =>
      have g1 : (x.a == y.a) = false := beq_eq_false_iff_ne.2 h1
      have HV := Lib.hid (show r = false from by rw [HR.out, g0, g1]; simp)
      clear h1
      go_enter Tryz.func34, Tryz.ntmps34
      go_wp2
      rw [← hwk]
      go_ret
      exact ⟨by rw [HV.out]; rfl, HW.out⟩
    case pos =>
      have g1 : (x.a == y.a) = true := beq_iff_eq.2 h1
      clear h1
      by_cases h2 : x.b = y.b
      case neg =>
        have g2 : (x.b == y.b) = false := beq_eq_false_iff_ne.2 h2
        have HV := Lib.hid (show r = false from by rw [HR.out, g0, g1, g2]; simp)
        clear h2
        go_enter Tryz.func34, Tryz.ntmps34
        go_wp2
        rw [← hwk]
        go_ret
        exact ⟨by rw [HV.out]; rfl, HW.out⟩
      case pos =>
        have g2 : (x.b == y.b) = true := beq_iff_eq.2 h2
        clear h2
        by_cases h3 : x.c = y.c
        case neg =>
          have g3 : (x.c == y.c) = false := beq_eq_false_iff_ne.2 h3
          have HV := Lib.hid (show r = false from by rw [HR.out, g0, g1, g2, g3]; simp)
          clear h3
          go_enter Tryz.func34, Tryz.ntmps34
          go_wp2
          rw [← hwk]
          go_ret
          exact ⟨by rw [HV.out]; rfl, HW.out⟩
        case pos =>
          have g3 : (x.c == y.c) = true := beq_iff_eq.2 h3
          clear h3
          have HV := Lib.hid (show r = (x.args == y.args) from by rw [HR.out, g0, g1, g2, g3]; simp)
          go_enter Tryz.func34, Tryz.ntmps34
          go_wp2_with fail
          rw [← hwk]
          clear hwk
          refine (KS.out _ (Ext.trans HW.out HE0.out)).mono ?_
          intro w1 hB
          have HE1 := Lib.hid (Ext.trans HE0.out hB)
          clear hB
          obtain ⟨d0_0, d0_1, d0_2, d0_3, d0_4, d1_0, d1_1, d1_2, d1_3, d1_4⟩ := BX.out _ HE1.out
          go_wp2
          go_ret
          exact ⟨by rw [HV.out]; rfl, Ext.trans HW.out HE1.out⟩

end Go.Proofs.YtfkjokbhnblndaaGreatDoor
