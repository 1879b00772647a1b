/- The reference's Same. -/
import Derived.Test.YtfkjokbhnblndaaGreatDoorPgSm2
import Derived.Test.YtfkjokbhnblndaaGreatDoorRtp
namespace Go.Proofs.YtfkjokbhnblndaaGreatDoor
open Go.RowKit
set_option linter.unusedVariables false
set_option linter.unusedSimpArgs false

theorem ins_beq (x y : Ins) : (x.op == y.op && (x.a == y.a && (x.b == y.b && (x.c == y.c && (x.args == y.args))))) = true ↔ x = y := by
  obtain ⟨a, b, c, d, e⟩ := x
  obtain ⟨a2, b2, c2, d2, e2⟩ := y
  simp

set_option maxRecDepth 100000 in
set_option maxHeartbeats 4000000 in
theorem sameP_any (p q : Pg) (A B : PA) (w : World) (hp : PgAt w p A) (hq : PgAt w q B) (r : Bool) (hr : r = true ↔ p = q) :
    Gives Tryz.prog 16 #[PV p A, PV q B] w (.bool r) := by
  unfold Gives
  have HP := Lib.hid (fun W (hW : Ext w W) => hp.ext hW)
  have HQ := Lib.hid (fun W (hW : Ext w W) => hq.ext hW)
  have HWP := Lib.hid hp.wf
  have HWQ := Lib.hid hq.wf
  have hnf := hp.wf.nf
  have hno := hp.wf.no
  have hnv := hp.wf.nv
  have hnf2 := hq.wf.nf
  have hno2 := hq.wf.no
  have hnv2 := hq.wf.nv
  have HR := Lib.hid hr
  clear hp hq hr
  obtain ⟨fa, fc, oa, oc, va, vc⟩ := A
  obtain ⟨fa2, fc2, oa2, oc2, va2, vc2⟩ := B
  dsimp only [PV]
  obtain ⟨wk, hwk⟩ : ∃ W, W = ((w.alloc (.cells #[.slice fa p.fs.length fc, .slice oa p.os.length oc, .slice va p.vs.length vc] 26)).alloc (.cells #[.slice fa2 q.fs.length fc2, .slice oa2 q.os.length oc2, .slice va2 q.vs.length vc2] 26)) := ⟨_, rfl⟩
  have BX := Lib.hid (show ∀ W, Ext wk W → (W.cell? ⟨w.heap.size, 0, none⟩ = some (.slice fa p.fs.length fc) ∧ W.cell? ⟨w.heap.size, 1, none⟩ = some (.slice oa p.os.length oc) ∧ W.cell? ⟨w.heap.size, 2, none⟩ = some (.slice va p.vs.length vc) ∧ W.cell? ⟨w.heap.size + 1, 0, none⟩ = some (.slice fa2 q.fs.length fc2) ∧ W.cell? ⟨w.heap.size + 1, 1, none⟩ = some (.slice oa2 q.os.length oc2) ∧ W.cell? ⟨w.heap.size + 1, 2, none⟩ = some (.slice va2 q.vs.length vc2)) from fun W hW => by
    subst hwk
    have h0 := alloc_here w (.cells #[.slice fa p.fs.length fc, .slice oa p.os.length oc, .slice va p.vs.length vc] 26)
    have h0 := (Below.heap_alloc _ (.cells #[.slice fa2 q.fs.length fc2, .slice oa2 q.os.length oc2, .slice va2 q.vs.length vc2] 26) _ (lt_of_block h0)).trans h0
    have k0 := (hW.below.block _ (lt_of_block h0)).trans h0
    have h1 := alloc_here (w.alloc (.cells #[.slice fa p.fs.length fc, .slice oa p.os.length oc, .slice va p.vs.length vc] 26)) (.cells #[.slice fa2 q.fs.length fc2, .slice oa2 q.os.length oc2, .slice va2 q.vs.length vc2] 26)
    simp only [World.size_alloc] at h1
    have k1 := (hW.below.block _ (lt_of_block h1)).trans h1
    exact ⟨cell_of k0 rfl, cell_of k0 rfl, cell_of k0 rfl, cell_of k1 rfl, cell_of k1 rfl, cell_of k1 rfl⟩)
  have HWZ := Lib.hid (show wk.heap.size = w.heap.size + 2 by rw [hwk]; simp)
  have HW := Lib.hid (show Ext w wk by rw [hwk]; exact (ext_alloc (ext_alloc (Below.refl _ _) _) _))
  have HE0 := Lib.hid (show Ext wk wk from Below.refl _ _)
  by_cases h0 : p.fs.length = q.fs.length
  case neg =>
    have HV := Lib.hid (show r = false from by cases hb : r with
      | false => rfl
      | true => exact absurd (HR.out.1 hb) (fun e => h0 (by rw [e])))
    have g0 : ((p.fs.length : Int) != (q.fs.length : Int)) = true := by rw [bne_iff_ne]; omega
    clear h0
    go_enter Tryz.func16, Tryz.ntmps16
    go_wp2
    rw [← hwk]
    go_ret
    exact ⟨by rw [HV.out]; rfl, HW.out⟩
  case pos =>
    have g0 : ((p.fs.length : Int) != (q.fs.length : Int)) = false := by rw [h0]; simp
    have L0 := Lib.hid h0
    clear h0
    by_cases h1 : p.os.length = q.os.length
    case neg =>
      have HV := Lib.hid (show r = false from by cases hb : r with
        | false => rfl
        | true => exact absurd (HR.out.1 hb) (fun e => h1 (by rw [e])))
      have g1 : ((p.os.length : Int) != (q.os.length : Int)) = true := by rw [bne_iff_ne]; omega
      clear h1
      go_enter Tryz.func16, Tryz.ntmps16
      go_wp2
      rw [← hwk]
      go_ret
      exact ⟨by rw [HV.out]; rfl, HW.out⟩
    case pos =>
      have g1 : ((p.os.length : Int) != (q.os.length : Int)) = false := by rw [h1]; simp
      have L1 := Lib.hid h1
      clear h1
      by_cases h2 : p.vs.length = q.vs.length
      case neg =>
        have HV := Lib.hid (show r = false from by cases hb : r with
          | false => rfl
          | true => exact absurd (HR.out.1 hb) (fun e => h2 (by rw [e])))
        have g2 : ((p.vs.length : Int) != (q.vs.length : Int)) = true := by rw [bne_iff_ne]; omega
        clear h2
        go_enter Tryz.func16, Tryz.ntmps16
        go_wp2
        rw [← hwk]
        go_ret
        exact ⟨by rw [HV.out]; rfl, HW.out⟩
      case pos =>
        have g2 : ((p.vs.length : Int) != (q.vs.length : Int)) = false := by rw [h2]; simp
        have L2 := Lib.hid h2
        clear h2
        go_enter Tryz.func16, Tryz.ntmps16
        go_wp2_with fail
        rw [← hwk]
        clear hwk
        clear g0 g1 g2
        have HE := Lib.hid (show Ext wk wk from Below.refl _ _)
        go_loopw [5] (fun i wr => ∃ k : Nat, k ≤ p.os.length ∧ i = .int .i64 (k : Int) ∧ (∀ j (h1 : j < p.os.length) (h2 : j < q.os.length), j < k → p.os[j] = q.os[j]) ∧ Ext wk wr) (fun i _ => p.os.length - (intOf i).toNat)
        case atStart => exact ⟨0, Nat.zero_le _, rfl, fun j _ _ h => absurd h (Nat.not_lt_zero _), HE.out⟩
        case round =>
          obtain ⟨k, hk, rfl, hA, hE⟩ := hrel
          clear HE
          have HE := Lib.hid hE
          have HA := Lib.hid hA
          clear hE hA
          obtain ⟨d0_0, d0_1, d0_2, d1_0, d1_1, d1_2⟩ := BX.out wr HE.out
          by_cases hlt : k < p.os.length
          case pos =>
            have hlt2 : k < q.os.length := L1.out ▸ hlt
            obtain ⟨b1, o1, ha1, hc1⟩ := (HP.out wr (Ext.trans HW.out HE.out)).os k hlt
            obtain ⟨b2, o2, ha2, hc2⟩ := (HQ.out wr (Ext.trans HW.out HE.out)).os k hlt2
            dsimp only at ha1 ha2
            subst ha1 ha2
            obtain ⟨c0, c1, c2, c3⟩ := hc1
            obtain ⟨e0, e1, e2, e3⟩ := hc2
            have HNE := Lib.hid (fun (h : p.os[k] ≠ q.os[k]) => show r = false from by
              cases hb : r with
              | false => rfl
              | true =>
                have e := HR.out.1 hb
                subst e
                exact absurd rfl h)
            have HNX := Lib.hid (fun (h : p.os[k] = q.os[k]) => show ∀ j (h1 : j < p.os.length) (h2 : j < q.os.length), j < k + 1 → p.os[j] = q.os[j] from fun j h1 h2 hj => by
              rcases Nat.lt_succ_iff_lt_or_eq.1 hj with h3 | h3
              · exact HA.out j h1 h2 h3
              · subst h3; exact h)
            generalize p.os[k] = y at *
            generalize q.os[k] = z at *
            go_wp2_with fail
            by_cases e : y = z
            case pos =>
              have HN := Lib.hid (HNX.out e)
              subst e
              clear HNX HNE
              have ud0_0 := fun U : Up _ => Up.cell d0_0 U
              have ud0_1 := fun U : Up _ => Up.cell d0_1 U
              have ud0_2 := fun U : Up _ => Up.cell d0_2 U
              have ud1_0 := fun U : Up _ => Up.cell d1_0 U
              have ud1_1 := fun U : Up _ => Up.cell d1_1 U
              have ud1_2 := fun U : Up _ => Up.cell d1_2 U
              have uc0 := fun U : Up _ => Up.cell c0 U
              have uc1 := fun U : Up _ => Up.cell c1 U
              have uc2 := fun U : Up _ => Up.cell c2 U
              have uc3 := fun U : Up _ => Up.cell c3 U
              have ue0 := fun U : Up _ => Up.cell e0 U
              have ue1 := fun U : Up _ => Up.cell e1 U
              have ue2 := fun U : Up _ => Up.cell e2 U
              have ue3 := fun U : Up _ => Up.cell e3 U
              refine wp_region_up (by kernel_rfl) (by kernel_rfl) ?_
              repeat (go_big_quiet_step (fail))
              refine wpQuiet_nil ?_
              rintro _ ⟨U, rfl⟩
              have HE6 := Lib.hid (Ext.trans HE.out U.ext)
              generalize U.W = w6 at *
              clear ud0_0 d0_0 ud0_1 d0_1 ud0_2 d0_2 ud1_0 d1_0 ud1_1 d1_1 ud1_2 d1_2 uc0 c0 uc1 c1 uc2 c2 uc3 c3 ue0 e0 ue1 e1 ue2 e2 ue3 e3
              go_wp2
              go_roundw
              case rel => exact ⟨k + 1, by omega, by go_num, HN.out, HE6.out⟩
              case measure => simp [intOf]; omega
            case neg =>
              have HV := Lib.hid (HNE.out e)
              clear HNX HNE
              obtain ⟨y0, y1, y2, y3⟩ := y
              obtain ⟨z0, z1, z2, z3⟩ := z
              dsimp only at c0 c1 c2 c3 e0 e1 e2 e3
              by_cases n0 : y0 = z0
              case neg =>
                have q0 : (y0 == z0) = false := beq_eq_false_iff_ne.2 n0
                clear n0 e
                have ud0_0 := fun U : Up _ => Up.cell d0_0 U
                have ud0_1 := fun U : Up _ => Up.cell d0_1 U
                have ud0_2 := fun U : Up _ => Up.cell d0_2 U
                have ud1_0 := fun U : Up _ => Up.cell d1_0 U
                have ud1_1 := fun U : Up _ => Up.cell d1_1 U
                have ud1_2 := fun U : Up _ => Up.cell d1_2 U
                have uc0 := fun U : Up _ => Up.cell c0 U
                have uc1 := fun U : Up _ => Up.cell c1 U
                have uc2 := fun U : Up _ => Up.cell c2 U
                have uc3 := fun U : Up _ => Up.cell c3 U
                have ue0 := fun U : Up _ => Up.cell e0 U
                have ue1 := fun U : Up _ => Up.cell e1 U
                have ue2 := fun U : Up _ => Up.cell e2 U
                have ue3 := fun U : Up _ => Up.cell e3 U
                refine wp_region_up (by kernel_rfl) (by kernel_rfl) ?_
                repeat (go_big_quiet_step (fail))
                refine wpQuiet_nil ?_
                rintro _ ⟨U, rfl⟩
                have HE6 := Lib.hid (Ext.trans HE.out U.ext)
                generalize U.W = w6 at *
                clear ud0_0 d0_0 ud0_1 d0_1 ud0_2 d0_2 ud1_0 d1_0 ud1_1 d1_1 ud1_2 d1_2 uc0 c0 uc1 c1 uc2 c2 uc3 c3 ue0 e0 ue1 e1 ue2 e2 ue3 e3
                go_wp2
                go_ret
                exact ⟨by rw [HV.out]; rfl, Ext.trans HW.out HE6.out⟩
              case pos =>
                subst n0
                by_cases n1 : y1 = z1
                case neg =>
                  have q1 : (y1 == z1) = false := beq_eq_false_iff_ne.2 n1
                  clear n1 e
                  have ud0_0 := fun U : Up _ => Up.cell d0_0 U
                  have ud0_1 := fun U : Up _ => Up.cell d0_1 U
                  have ud0_2 := fun U : Up _ => Up.cell d0_2 U
                  have ud1_0 := fun U : Up _ => Up.cell d1_0 U
                  have ud1_1 := fun U : Up _ => Up.cell d1_1 U
                  have ud1_2 := fun U : Up _ => Up.cell d1_2 U
                  have uc0 := fun U : Up _ => Up.cell c0 U
                  have uc1 := fun U : Up _ => Up.cell c1 U
                  have uc2 := fun U : Up _ => Up.cell c2 U
                  have uc3 := fun U : Up _ => Up.cell c3 U
                  have ue0 := fun U : Up _ => Up.cell e0 U
                  have ue1 := fun U : Up _ => Up.cell e1 U
                  have ue2 := fun U : Up _ => Up.cell e2 U
                  have ue3 := fun U : Up _ => Up.cell e3 U
                  refine wp_region_up (by kernel_rfl) (by kernel_rfl) ?_
                  repeat (go_big_quiet_step (fail))
                  refine wpQuiet_nil ?_
                  rintro _ ⟨U, rfl⟩
                  have HE6 := Lib.hid (Ext.trans HE.out U.ext)
                  generalize U.W = w6 at *
                  clear ud0_0 d0_0 ud0_1 d0_1 ud0_2 d0_2 ud1_0 d1_0 ud1_1 d1_1 ud1_2 d1_2 uc0 c0 uc1 c1 uc2 c2 uc3 c3 ue0 e0 ue1 e1 ue2 e2 ue3 e3
                  go_wp2
                  go_ret
                  exact ⟨by rw [HV.out]; rfl, Ext.trans HW.out HE6.out⟩
                case pos =>
                  subst n1
                  by_cases n2 : y2 = z2
                  case neg =>
                    have q2 : (y2 == z2) = false := beq_eq_false_iff_ne.2 n2
                    clear n2 e
                    have ud0_0 := fun U : Up _ => Up.cell d0_0 U
                    have ud0_1 := fun U : Up _ => Up.cell d0_1 U
                    have ud0_2 := fun U : Up _ => Up.cell d0_2 U
                    have ud1_0 := fun U : Up _ => Up.cell d1_0 U
                    have ud1_1 := fun U : Up _ => Up.cell d1_1 U
                    have ud1_2 := fun U : Up _ => Up.cell d1_2 U
                    have uc0 := fun U : Up _ => Up.cell c0 U
                    have uc1 := fun U : Up _ => Up.cell c1 U
                    have uc2 := fun U : Up _ => Up.cell c2 U
                    have uc3 := fun U : Up _ => Up.cell c3 U
                    have ue0 := fun U : Up _ => Up.cell e0 U
                    have ue1 := fun U : Up _ => Up.cell e1 U
                    have ue2 := fun U : Up _ => Up.cell e2 U
                    have ue3 := fun U : Up _ => Up.cell e3 U
                    refine wp_region_up (by kernel_rfl) (by kernel_rfl) ?_
                    repeat (go_big_quiet_step (fail))
                    refine wpQuiet_nil ?_
                    rintro _ ⟨U, rfl⟩
                    have HE6 := Lib.hid (Ext.trans HE.out U.ext)
                    generalize U.W = w6 at *
                    clear ud0_0 d0_0 ud0_1 d0_1 ud0_2 d0_2 ud1_0 d1_0 ud1_1 d1_1 ud1_2 d1_2 uc0 c0 uc1 c1 uc2 c2 uc3 c3 ue0 e0 ue1 e1 ue2 e2 ue3 e3
                    go_wp2
                    go_ret
                    exact ⟨by rw [HV.out]; rfl, Ext.trans HW.out HE6.out⟩
                  case pos =>
                    subst n2
                    have n3 : y3 ≠ z3 := fun e2 => e (by subst e2; rfl)
                    have q3 : (y3 == z3) = false := beq_eq_false_iff_ne.2 n3
                    clear n3 e
                    have ud0_0 := fun U : Up _ => Up.cell d0_0 U
                    have ud0_1 := fun U : Up _ => Up.cell d0_1 U
                    have ud0_2 := fun U : Up _ => Up.cell d0_2 U
                    have ud1_0 := fun U : Up _ => Up.cell d1_0 U
                    have ud1_1 := fun U : Up _ => Up.cell d1_1 U
                    have ud1_2 := fun U : Up _ => Up.cell d1_2 U
                    have uc0 := fun U : Up _ => Up.cell c0 U
                    have uc1 := fun U : Up _ => Up.cell c1 U
                    have uc2 := fun U : Up _ => Up.cell c2 U
                    have uc3 := fun U : Up _ => Up.cell c3 U
                    have ue0 := fun U : Up _ => Up.cell e0 U
                    have ue1 := fun U : Up _ => Up.cell e1 U
                    have ue2 := fun U : Up _ => Up.cell e2 U
                    have ue3 := fun U : Up _ => Up.cell e3 U
                    refine wp_region_up (by kernel_rfl) (by kernel_rfl) ?_
                    repeat (go_big_quiet_step (fail))
                    refine wpQuiet_nil ?_
                    rintro _ ⟨U, rfl⟩
                    have HE6 := Lib.hid (Ext.trans HE.out U.ext)
                    generalize U.W = w6 at *
                    clear ud0_0 d0_0 ud0_1 d0_1 ud0_2 d0_2 ud1_0 d1_0 ud1_1 d1_1 ud1_2 d1_2 uc0 c0 uc1 c1 uc2 c2 uc3 c3 ue0 e0 ue1 e1 ue2 e2 ue3 e3
                    go_wp2
                    go_ret
                    exact ⟨by rw [HV.out]; rfl, Ext.trans HW.out HE6.out⟩
          case neg =>
            have EO := Lib.hid (show p.os = q.os from List.ext_getElem L1.out (fun j h1 h2 => HA.out j h1 h2 (by omega)))
            go_wp2_with fail
            clear hk hlt HA d0_0 d0_1 d0_2 d1_0 d1_1 d1_2
            generalize wr = wv5 at *
            generalize k = kv5 at *
            go_loopw [6] (fun i wr => ∃ k : Nat, k ≤ p.vs.length ∧ i = .int .i64 (k : Int) ∧ (∀ j (h1 : j < p.vs.length) (h2 : j < q.vs.length), j < k → p.vs[j] = q.vs[j]) ∧ Ext wk wr) (fun i _ => p.vs.length - (intOf i).toNat)
            case atStart => exact ⟨0, Nat.zero_le _, rfl, fun j _ _ h => absurd h (Nat.not_lt_zero _), HE.out⟩
            case round =>
              obtain ⟨k, hk, rfl, hA, hE⟩ := hrel
              clear HE
              have HE := Lib.hid hE
              have HA := Lib.hid hA
              clear hE hA
              obtain ⟨d0_0, d0_1, d0_2, d1_0, d1_1, d1_2⟩ := BX.out wr HE.out
              by_cases hlt : k < p.vs.length
              case pos =>
                have hlt2 : k < q.vs.length := L2.out ▸ hlt
                obtain ⟨b1, o1, ha1, hc1⟩ := (HP.out wr (Ext.trans HW.out HE.out)).vs k hlt
                obtain ⟨b2, o2, ha2, hc2⟩ := (HQ.out wr (Ext.trans HW.out HE.out)).vs k hlt2
                dsimp only at ha1 ha2
                subst ha1 ha2
                obtain ⟨c0, c1, c2⟩ := hc1
                obtain ⟨e0, e1, e2⟩ := hc2
                have HNE := Lib.hid (fun (h : p.vs[k] ≠ q.vs[k]) => show r = false from by
                  cases hb : r with
                  | false => rfl
                  | true =>
                    have e := HR.out.1 hb
                    subst e
                    exact absurd rfl h)
                have HNX := Lib.hid (fun (h : p.vs[k] = q.vs[k]) => show ∀ j (h1 : j < p.vs.length) (h2 : j < q.vs.length), j < k + 1 → p.vs[j] = q.vs[j] from fun j h1 h2 hj => by
                  rcases Nat.lt_succ_iff_lt_or_eq.1 hj with h3 | h3
                  · exact HA.out j h1 h2 h3
                  · subst h3; exact h)
                generalize p.vs[k] = y at *
                generalize q.vs[k] = z at *
                go_wp2_with fail
                by_cases e : y = z
                case pos =>
                  have HN := Lib.hid (HNX.out e)
                  subst e
                  clear HNX HNE
                  have ud0_0 := fun U : Up _ => Up.cell d0_0 U
                  have ud0_1 := fun U : Up _ => Up.cell d0_1 U
                  have ud0_2 := fun U : Up _ => Up.cell d0_2 U
                  have ud1_0 := fun U : Up _ => Up.cell d1_0 U
                  have ud1_1 := fun U : Up _ => Up.cell d1_1 U
                  have ud1_2 := fun U : Up _ => Up.cell d1_2 U
                  have uc0 := fun U : Up _ => Up.cell c0 U
                  have uc1 := fun U : Up _ => Up.cell c1 U
                  have uc2 := fun U : Up _ => Up.cell c2 U
                  have ue0 := fun U : Up _ => Up.cell e0 U
                  have ue1 := fun U : Up _ => Up.cell e1 U
                  have ue2 := fun U : Up _ => Up.cell e2 U
                  refine wp_region_up (by kernel_rfl) (by kernel_rfl) ?_
                  repeat (go_big_quiet_step (fail))
                  refine wpQuiet_nil ?_
                  rintro _ ⟨U, rfl⟩
                  have HE6 := Lib.hid (Ext.trans HE.out U.ext)
                  generalize U.W = w6 at *
                  clear ud0_0 d0_0 ud0_1 d0_1 ud0_2 d0_2 ud1_0 d1_0 ud1_1 d1_1 ud1_2 d1_2 uc0 c0 uc1 c1 uc2 c2 ue0 e0 ue1 e1 ue2 e2
                  go_wp2
                  go_roundw
                  case rel => exact ⟨k + 1, by omega, by go_num, HN.out, HE6.out⟩
                  case measure => simp [intOf]; omega
                case neg =>
                  have HV := Lib.hid (HNE.out e)
                  clear HNX HNE
                  obtain ⟨y0, y1, y2⟩ := y
                  obtain ⟨z0, z1, z2⟩ := z
                  dsimp only at c0 c1 c2 e0 e1 e2
                  by_cases n0 : y0 = z0
                  case neg =>
                    have q0 : (y0 == z0) = false := beq_eq_false_iff_ne.2 n0
                    clear n0 e
                    have ud0_0 := fun U : Up _ => Up.cell d0_0 U
                    have ud0_1 := fun U : Up _ => Up.cell d0_1 U
                    have ud0_2 := fun U : Up _ => Up.cell d0_2 U
                    have ud1_0 := fun U : Up _ => Up.cell d1_0 U
                    have ud1_1 := fun U : Up _ => Up.cell d1_1 U
                    have ud1_2 := fun U : Up _ => Up.cell d1_2 U
                    have uc0 := fun U : Up _ => Up.cell c0 U
                    have uc1 := fun U : Up _ => Up.cell c1 U
                    have uc2 := fun U : Up _ => Up.cell c2 U
                    have ue0 := fun U : Up _ => Up.cell e0 U
                    have ue1 := fun U : Up _ => Up.cell e1 U
                    have ue2 := fun U : Up _ => Up.cell e2 U
                    refine wp_region_up (by kernel_rfl) (by kernel_rfl) ?_
                    repeat (go_big_quiet_step (fail))
                    refine wpQuiet_nil ?_
                    rintro _ ⟨U, rfl⟩
                    have HE6 := Lib.hid (Ext.trans HE.out U.ext)
                    generalize U.W = w6 at *
                    clear ud0_0 d0_0 ud0_1 d0_1 ud0_2 d0_2 ud1_0 d1_0 ud1_1 d1_1 ud1_2 d1_2 uc0 c0 uc1 c1 uc2 c2 ue0 e0 ue1 e1 ue2 e2
                    go_wp2
                    go_ret
                    exact ⟨by rw [HV.out]; rfl, Ext.trans HW.out HE6.out⟩
                  case pos =>
                    subst n0
                    by_cases n1 : y1 = z1
                    case neg =>
                      have q1 : (y1 == z1) = false := beq_eq_false_iff_ne.2 n1
                      clear n1 e
                      have ud0_0 := fun U : Up _ => Up.cell d0_0 U
                      have ud0_1 := fun U : Up _ => Up.cell d0_1 U
                      have ud0_2 := fun U : Up _ => Up.cell d0_2 U
                      have ud1_0 := fun U : Up _ => Up.cell d1_0 U
                      have ud1_1 := fun U : Up _ => Up.cell d1_1 U
                      have ud1_2 := fun U : Up _ => Up.cell d1_2 U
                      have uc0 := fun U : Up _ => Up.cell c0 U
                      have uc1 := fun U : Up _ => Up.cell c1 U
                      have uc2 := fun U : Up _ => Up.cell c2 U
                      have ue0 := fun U : Up _ => Up.cell e0 U
                      have ue1 := fun U : Up _ => Up.cell e1 U
                      have ue2 := fun U : Up _ => Up.cell e2 U
                      refine wp_region_up (by kernel_rfl) (by kernel_rfl) ?_
                      repeat (go_big_quiet_step (fail))
                      refine wpQuiet_nil ?_
                      rintro _ ⟨U, rfl⟩
                      have HE6 := Lib.hid (Ext.trans HE.out U.ext)
                      generalize U.W = w6 at *
                      clear ud0_0 d0_0 ud0_1 d0_1 ud0_2 d0_2 ud1_0 d1_0 ud1_1 d1_1 ud1_2 d1_2 uc0 c0 uc1 c1 uc2 c2 ue0 e0 ue1 e1 ue2 e2
                      go_wp2
                      go_ret
                      exact ⟨by rw [HV.out]; rfl, Ext.trans HW.out HE6.out⟩
                    case pos =>
                      subst n1
                      have n2 : y2 ≠ z2 := fun e2 => e (by subst e2; rfl)
                      have q2 : (y2 == z2) = false := beq_eq_false_iff_ne.2 n2
                      clear n2 e
                      have ud0_0 := fun U : Up _ => Up.cell d0_0 U
                      have ud0_1 := fun U : Up _ => Up.cell d0_1 U
                      have ud0_2 := fun U : Up _ => Up.cell d0_2 U
                      have ud1_0 := fun U : Up _ => Up.cell d1_0 U
                      have ud1_1 := fun U : Up _ => Up.cell d1_1 U
                      have ud1_2 := fun U : Up _ => Up.cell d1_2 U
                      have uc0 := fun U : Up _ => Up.cell c0 U
                      have uc1 := fun U : Up _ => Up.cell c1 U
                      have uc2 := fun U : Up _ => Up.cell c2 U
                      have ue0 := fun U : Up _ => Up.cell e0 U
                      have ue1 := fun U : Up _ => Up.cell e1 U
                      have ue2 := fun U : Up _ => Up.cell e2 U
                      refine wp_region_up (by kernel_rfl) (by kernel_rfl) ?_
                      repeat (go_big_quiet_step (fail))
                      refine wpQuiet_nil ?_
                      rintro _ ⟨U, rfl⟩
                      have HE6 := Lib.hid (Ext.trans HE.out U.ext)
                      generalize U.W = w6 at *
                      clear ud0_0 d0_0 ud0_1 d0_1 ud0_2 d0_2 ud1_0 d1_0 ud1_1 d1_1 ud1_2 d1_2 uc0 c0 uc1 c1 uc2 c2 ue0 e0 ue1 e1 ue2 e2
                      go_wp2
                      go_ret
                      exact ⟨by rw [HV.out]; rfl, Ext.trans HW.out HE6.out⟩
              case neg =>
                have EV := Lib.hid (show p.vs = q.vs from List.ext_getElem L2.out (fun j h1 h2 => HA.out j h1 h2 (by omega)))
                go_wp2_with fail
                clear hk hlt HA d0_0 d0_1 d0_2 d1_0 d1_1 d1_2
                generalize wr = wv6 at *
                generalize k = kv6 at *
                go_loopw [7] (fun i wr => ∃ k : Nat, k ≤ p.fs.length ∧ i = .int .i64 (k : Int) ∧ (∀ j (h1 : j < p.fs.length) (h2 : j < q.fs.length), j < k → p.fs[j] = q.fs[j]) ∧ Ext wk wr) (fun i _ => p.fs.length - (intOf i).toNat)
                case atStart => exact ⟨0, Nat.zero_le _, rfl, fun j _ _ h => absurd h (Nat.not_lt_zero _), HE.out⟩
                case round =>
                  obtain ⟨k, hk, rfl, hA, hE⟩ := hrel
                  clear HE
                  have HE := Lib.hid hE
                  have HA := Lib.hid hA
                  clear hE hA
                  obtain ⟨d0_0, d0_1, d0_2, d1_0, d1_1, d1_2⟩ := BX.out wr HE.out
                  by_cases hlt : k < p.fs.length
                  case neg =>
                    have EF := Lib.hid (show p.fs = q.fs from List.ext_getElem L0.out (fun j h1 h2 => HA.out j h1 h2 (by omega)))
                    have HV := Lib.hid (show r = true from HR.out.2 (by
                      obtain ⟨pf, po, pv⟩ := p
                      obtain ⟨qf, qo, qv⟩ := q
                      obtain rfl : pf = qf := EF.out
                      obtain rfl : po = qo := EO.out
                      obtain rfl : pv = qv := EV.out
                      rfl))
                    go_wp2
                    go_ret
                    exact ⟨by rw [HV.out]; rfl, Ext.trans HW.out HE.out⟩
                  case pos =>
                    have hlt2 : k < q.fs.length := L0.out ▸ hlt
                    obtain ⟨b1, o1, xa, xc, ha1, hc1, hi1⟩ := (HP.out wr (Ext.trans HW.out HE.out)).fs k hlt
                    obtain ⟨b2, o2, ya, yc, ha2, hc2, hi2⟩ := (HQ.out wr (Ext.trans HW.out HE.out)).fs k hlt2
                    dsimp only at ha1 ha2
                    subst ha1 ha2
                    have HC1 := Lib.hid (fun W (hW : Ext wr W) => hc1.ext hW)
                    have HC2 := Lib.hid (fun W (hW : Ext wr W) => hc2.ext hW)
                    have HI1 := Lib.hid (fun W (hW : Ext wr W) => hi1.ext hW)
                    have HI2 := Lib.hid (fun W (hW : Ext wr W) => hi2.ext hW)
                    have hFW1 := HWP.out.fs _ (List.getElem_mem hlt)
                    have hFW2 := HWQ.out.fs _ (List.getElem_mem hlt2)
                    have hln1 := hFW1.len
                    have hln2 := hFW2.len
                    have HF1 := Lib.hid hFW1.code
                    have HF2 := Lib.hid hFW2.code
                    have HNE := Lib.hid (fun (h : p.fs[k] ≠ q.fs[k]) => show r = false from by
                      cases hb : r with
                      | false => rfl
                      | true =>
                        have e := HR.out.1 hb
                        subst e
                        exact absurd rfl h)
                    have HNX := Lib.hid (fun (h : p.fs[k] = q.fs[k]) => show ∀ j (h1 : j < p.fs.length) (h2 : j < q.fs.length), j < k + 1 → p.fs[j] = q.fs[j] from fun j h1 h2 hj => by
                      rcases Nat.lt_succ_iff_lt_or_eq.1 hj with h3 | h3
                      · exact HA.out j h1 h2 h3
                      · subst h3; exact h)
                    clear hc1 hc2 hi1 hi2 hFW1 hFW2
                    generalize p.fs[k] = y at *
                    generalize q.fs[k] = z at *
                    obtain ⟨nm, pa, re, pr, cl, co⟩ := y
                    obtain ⟨nm2, pa2, re2, pr2, cl2, co2⟩ := z
                    dsimp only at HI1 HI2 hln1 hln2 HF1 HF2
                    go_wp2_with fail
                    refine wp_region_gptail (l1 := [_, _, _, _, _, _, _, _, _, _, _, _, _]) (l2 := [_]) (by kernel_rfl) (fun j => j == 10 || j == 11) (Grow wr.heap.size 47 (fun c => c = #[sV nm, .int .i64 pa, .int .i64 re, .int .i64 pr, .bool cl, .slice xa co.length xc])) (Grow.refl _ _ _) (Grow.drawn _ _ _) Grow.trans
                      (fun i s W => match i with
                        | 0 => s 0 = .pointer (some ⟨w.heap.size, 0, none⟩)
                        | 1 => s 1 = .slice (some ⟨b1, o1, none⟩) p.fs.length fc
                        | 2 => s 2 = .int .i64 (k : Int)
                        | 3 => s 3 = .pointer (some ⟨b1, o1 + k * 6, none⟩)
                        | 4 => s 4 = .agg #[sV nm, .int .i64 pa, .int .i64 re, .int .i64 pr, .bool cl, .slice xa co.length xc]
                        | 5 => s 5 = .pointer (some ⟨w.heap.size + 1, 0, none⟩)
                        | 6 => s 6 = .slice (some ⟨b2, o2, none⟩) q.fs.length fc2
                        | 7 => s 7 = .int .i64 (k : Int)
                        | 8 => s 8 = .pointer (some ⟨b2, o2 + k * 6, none⟩)
                        | 9 => s 9 = .agg #[sV nm2, .int .i64 pa2, .int .i64 re2, .int .i64 pr2, .bool cl2, .slice ya co2.length yc]
                        | 10 => ∃ g cc, s 10 = .pointer (some ⟨g, 0, none⟩) ∧ wr.heap.size ≤ g ∧ W.heap[g]? = some (.cells cc 47 (0, 0)) ∧ cc.size = 6
                        | 11 => ∃ g cc, s 11 = .pointer (some ⟨g, 0, none⟩) ∧ wr.heap.size ≤ g ∧ W.heap[g]? = some (.cells cc 47 (0, 0)) ∧ cc.size = 6
                        | 12 => ∃ g cc, s 10 = .pointer (some ⟨g, 0, none⟩) ∧ wr.heap.size ≤ g ∧ W.heap[g]? = some (.cells cc 47 (0, 0)) ∧ cc = #[sV nm, .int .i64 pa, .int .i64 re, .int .i64 pr, .bool cl, .slice xa co.length xc]
                        | _ => True)
                      (fun j => match j with | 12 => [10] | j => [j])
                      (by
                        intro i s s' W W' h hs hR
                        match i, h, hs with
                        | 0, h, hs => exact (hs 0 (by simp)).trans h
                        | 1, h, hs => exact (hs 1 (by simp)).trans h
                        | 2, h, hs => exact (hs 2 (by simp)).trans h
                        | 3, h, hs => exact (hs 3 (by simp)).trans h
                        | 4, h, hs => exact (hs 4 (by simp)).trans h
                        | 5, h, hs => exact (hs 5 (by simp)).trans h
                        | 6, h, hs => exact (hs 6 (by simp)).trans h
                        | 7, h, hs => exact (hs 7 (by simp)).trans h
                        | 8, h, hs => exact (hs 8 (by simp)).trans h
                        | 9, h, hs => exact (hs 9 (by simp)).trans h
                        | 10, ⟨g, cc, h1, h2, h3, h4⟩, hs => obtain ⟨c', e1, e2⟩ := hR.turn h3; exact ⟨g, c', (hs 10 (by simp)).trans h1, h2, e1, by omega⟩
                        | 11, ⟨g, cc, h1, h2, h3, h4⟩, hs => obtain ⟨c', e1, e2⟩ := hR.turn h3; exact ⟨g, c', (hs 11 (by simp)).trans h1, h2, e1, by omega⟩
                        | 12, ⟨g, cc, h1, h2, h3, h4⟩, hs => obtain ⟨c', e1, e2⟩ := hR.done h3 h4; exact ⟨g, c', (hs 10 (by simp)).trans h1, h2, e1, e2⟩
                        | i + 13, h, hs => exact trivial)
                      (by kernel_rfl) (by kernel_rfl) (by kernel_rfl) 150 rfl (by kernel_rfl) (by kernel_rfl) ?_ ?_
                    · intro i op ho a' W hA
                      have hEW : Ext wr W := hA.rel.ext
                      obtain ⟨d0_0, d0_1, d0_2, d1_0, d1_1, d1_2⟩ := BX.out W (Ext.trans HE.out hEW)
                      obtain ⟨c0, c1, c2, c3, c4, c5⟩ := HC1.out W hEW
                      obtain ⟨f0, f1, f2, f3, f4, f5⟩ := HC2.out W hEW
                      dsimp only at c0 c1 c2 c3 c4 c5 f0 f1 f2 f3 f4 f5
                      match i, ho with
                      | 0, ho =>
                        obtain rfl := Option.some.inj ho
                        refine GoesG.toP (by rfl) ?_
                        have e1 : a'.eval (.tmp 2) = .pointer (some ⟨w.heap.size, 0, none⟩) := hA.keep 2 (by kernel_rfl)
                        refine GoesG.value (.pointer (some ⟨w.heap.size, 0, none⟩)) rfl ?_ (Grow.refl _ _ _ _) (fun s h1 h2 => h1 rfl)
                        simp only [execOp, e1]
                        simp [go_sem, hlt, hlt2, c0, c1, c2, c3, c4, c5, f0, f1, f2, f3, f4, f5, d0_0, d0_1, d0_2, d1_0, d1_1, d1_2]
                      | 1, ho =>
                        obtain rfl := Option.some.inj ho
                        refine GoesG.toP (by rfl) ?_
                        have e1 : a'.eval (.tmp 79) = .pointer (some ⟨w.heap.size, 0, none⟩) := (sv_dst (l := _) rfl).symm.trans (hA.new 0 (by decide) (by kernel_rfl))
                        refine GoesG.value (.slice (some ⟨b1, o1, none⟩) p.fs.length fc) rfl ?_ (Grow.refl _ _ _ _) (fun s h1 h2 => h1 rfl)
                        simp only [execOp, e1]
                        simp [go_sem, hlt, hlt2, c0, c1, c2, c3, c4, c5, f0, f1, f2, f3, f4, f5, d0_0, d0_1, d0_2, d1_0, d1_1, d1_2]
                      | 2, ho =>
                        obtain rfl := Option.some.inj ho
                        refine GoesG.toP (by rfl) ?_
                        have e1 : a'.eval (.tmp 7) = .int .i64 (k : Int) := hA.keep 7 (by kernel_rfl)
                        refine GoesG.value (.int .i64 (k : Int)) rfl ?_ (Grow.refl _ _ _ _) (fun s h1 h2 => h1 rfl)
                        simp only [execOp, e1]
                        simp [go_sem, hlt, hlt2, c0, c1, c2, c3, c4, c5, f0, f1, f2, f3, f4, f5, d0_0, d0_1, d0_2, d1_0, d1_1, d1_2]
                      | 3, ho =>
                        obtain rfl := Option.some.inj ho
                        refine GoesG.toP (by rfl) ?_
                        have e1 : a'.eval (.tmp 80) = .slice (some ⟨b1, o1, none⟩) p.fs.length fc := (sv_dst (l := _) rfl).symm.trans (hA.new 1 (by decide) (by kernel_rfl))
                        have e2 : a'.eval (.tmp 81) = .int .i64 (k : Int) := (sv_dst (l := _) rfl).symm.trans (hA.new 2 (by decide) (by kernel_rfl))
                        refine GoesG.value (.pointer (some ⟨b1, o1 + k * 6, none⟩)) rfl ?_ (Grow.refl _ _ _ _) (fun s h1 h2 => h1 rfl)
                        simp only [execOp, e1, e2]
                        simp [go_sem, hlt, hlt2, c0, c1, c2, c3, c4, c5, f0, f1, f2, f3, f4, f5, d0_0, d0_1, d0_2, d1_0, d1_1, d1_2]
                      | 4, ho =>
                        obtain rfl := Option.some.inj ho
                        refine GoesG.toP (by rfl) ?_
                        have e1 : a'.eval (.tmp 82) = .pointer (some ⟨b1, o1 + k * 6, none⟩) := (sv_dst (l := _) rfl).symm.trans (hA.new 3 (by decide) (by kernel_rfl))
                        refine GoesG.value (.agg #[sV nm, .int .i64 pa, .int .i64 re, .int .i64 pr, .bool cl, .slice xa co.length xc]) rfl ?_ (Grow.refl _ _ _ _) (fun s h1 h2 => h1 rfl)
                        simp only [execOp, e1]
                        simp [go_sem, hlt, hlt2, c0, c1, c2, c3, c4, c5, f0, f1, f2, f3, f4, f5, d0_0, d0_1, d0_2, d1_0, d1_1, d1_2]
                      | 5, ho =>
                        obtain rfl := Option.some.inj ho
                        refine GoesG.toP (by rfl) ?_
                        have e1 : a'.eval (.tmp 3) = .pointer (some ⟨w.heap.size + 1, 0, none⟩) := hA.keep 3 (by kernel_rfl)
                        refine GoesG.value (.pointer (some ⟨w.heap.size + 1, 0, none⟩)) rfl ?_ (Grow.refl _ _ _ _) (fun s h1 h2 => h1 rfl)
                        simp only [execOp, e1]
                        simp [go_sem, hlt, hlt2, c0, c1, c2, c3, c4, c5, f0, f1, f2, f3, f4, f5, d0_0, d0_1, d0_2, d1_0, d1_1, d1_2]
                      | 6, ho =>
                        obtain rfl := Option.some.inj ho
                        refine GoesG.toP (by rfl) ?_
                        have e1 : a'.eval (.tmp 84) = .pointer (some ⟨w.heap.size + 1, 0, none⟩) := (sv_dst (l := _) rfl).symm.trans (hA.new 5 (by decide) (by kernel_rfl))
                        refine GoesG.value (.slice (some ⟨b2, o2, none⟩) q.fs.length fc2) rfl ?_ (Grow.refl _ _ _ _) (fun s h1 h2 => h1 rfl)
                        simp only [execOp, e1]
                        simp [go_sem, hlt, hlt2, c0, c1, c2, c3, c4, c5, f0, f1, f2, f3, f4, f5, d0_0, d0_1, d0_2, d1_0, d1_1, d1_2]
                      | 7, ho =>
                        obtain rfl := Option.some.inj ho
                        refine GoesG.toP (by rfl) ?_
                        have e1 : a'.eval (.tmp 7) = .int .i64 (k : Int) := hA.keep 7 (by kernel_rfl)
                        refine GoesG.value (.int .i64 (k : Int)) rfl ?_ (Grow.refl _ _ _ _) (fun s h1 h2 => h1 rfl)
                        simp only [execOp, e1]
                        simp [go_sem, hlt, hlt2, c0, c1, c2, c3, c4, c5, f0, f1, f2, f3, f4, f5, d0_0, d0_1, d0_2, d1_0, d1_1, d1_2]
                      | 8, ho =>
                        obtain rfl := Option.some.inj ho
                        refine GoesG.toP (by rfl) ?_
                        have e1 : a'.eval (.tmp 85) = .slice (some ⟨b2, o2, none⟩) q.fs.length fc2 := (sv_dst (l := _) rfl).symm.trans (hA.new 6 (by decide) (by kernel_rfl))
                        have e2 : a'.eval (.tmp 86) = .int .i64 (k : Int) := (sv_dst (l := _) rfl).symm.trans (hA.new 7 (by decide) (by kernel_rfl))
                        refine GoesG.value (.pointer (some ⟨b2, o2 + k * 6, none⟩)) rfl ?_ (Grow.refl _ _ _ _) (fun s h1 h2 => h1 rfl)
                        simp only [execOp, e1, e2]
                        simp [go_sem, hlt, hlt2, c0, c1, c2, c3, c4, c5, f0, f1, f2, f3, f4, f5, d0_0, d0_1, d0_2, d1_0, d1_1, d1_2]
                      | 9, ho =>
                        obtain rfl := Option.some.inj ho
                        refine GoesG.toP (by rfl) ?_
                        have e1 : a'.eval (.tmp 87) = .pointer (some ⟨b2, o2 + k * 6, none⟩) := (sv_dst (l := _) rfl).symm.trans (hA.new 8 (by decide) (by kernel_rfl))
                        refine GoesG.value (.agg #[sV nm2, .int .i64 pa2, .int .i64 re2, .int .i64 pr2, .bool cl2, .slice ya co2.length yc]) rfl ?_ (Grow.refl _ _ _ _) (fun s h1 h2 => h1 rfl)
                        simp only [execOp, e1]
                        simp [go_sem, hlt, hlt2, c0, c1, c2, c3, c4, c5, f0, f1, f2, f3, f4, f5, d0_0, d0_1, d0_2, d1_0, d1_1, d1_2]
                      | 10, ho =>
                        obtain rfl := Option.some.inj ho
                        refine GoesP.alloc (.pointer (some ⟨W.heap.size, 0, none⟩)) (W' := W.alloc (.cells #[.string { data := #[] }, .int .i64 0, .int .i64 0, .int .i64 0, .bool false, .slice none 0 0] 47)) rfl rfl ?_ (Grow.of_ext (ext_alloc (Below.refl _ _) _)) (fun s h1 h2 => ⟨W.heap.size, _, h1 rfl, hA.rel.size, alloc_here _ _, rfl⟩) (fun j s hal hj e => ?_)
                        · simp only [execOp]
                          simp [go_sem]
                        · have hj3 : j = 10 ∨ j = 11 := by have h9 := hal; simp at h9; omega
                          rcases hj3 with rfl | rfl
                          · obtain ⟨g, cc, h1, h2, h3, h4⟩ := hj
                            rw [h1] at e
                            cases e
                            exact absurd (lt_of_block h3) (Nat.lt_irrefl _)
                          · obtain ⟨g, cc, h1, h2, h3, h4⟩ := hj
                            rw [h1] at e
                            cases e
                            exact absurd (lt_of_block h3) (Nat.lt_irrefl _)
                      | 11, ho =>
                        obtain rfl := Option.some.inj ho
                        refine GoesP.alloc (.pointer (some ⟨W.heap.size, 0, none⟩)) (W' := W.alloc (.cells #[.string { data := #[] }, .int .i64 0, .int .i64 0, .int .i64 0, .bool false, .slice none 0 0] 47)) rfl rfl ?_ (Grow.of_ext (ext_alloc (Below.refl _ _) _)) (fun s h1 h2 => ⟨W.heap.size, _, h1 rfl, hA.rel.size, alloc_here _ _, rfl⟩) (fun j s hal hj e => ?_)
                        · simp only [execOp]
                          simp [go_sem]
                        · have hj3 : j = 10 ∨ j = 11 := by have h9 := hal; simp at h9; omega
                          rcases hj3 with rfl | rfl
                          · obtain ⟨g, cc, h1, h2, h3, h4⟩ := hj
                            rw [h1] at e
                            cases e
                            exact absurd (lt_of_block h3) (Nat.lt_irrefl _)
                          · obtain ⟨g, cc, h1, h2, h3, h4⟩ := hj
                            rw [h1] at e
                            cases e
                            exact absurd (lt_of_block h3) (Nat.lt_irrefl _)
                      | 12, ho =>
                        obtain rfl := Option.some.inj ho
                        refine GoesG.toP (by rfl) ?_
                        obtain ⟨g, cc, e0, hB2, hg, hcc⟩ := hA.new 10 (by decide) (by kernel_rfl)
                        have e1 : a'.eval (.tmp 8) = .pointer (some ⟨g, 0, none⟩) := (sv_dst (l := _) rfl).symm.trans e0
                        have e2 : a'.eval (.tmp 83) = .agg #[sV nm, .int .i64 pa, .int .i64 re, .int .i64 pr, .bool cl, .slice xa co.length xc] := (sv_dst (l := _) rfl).symm.trans (hA.new 4 (by decide) (by kernel_rfl))
                        exact GoesG.store rfl 47 (.tmp 8) (.tmp 83) rfl g #[sV nm, .int .i64 pa, .int .i64 re, .int .i64 pr, .bool cl, .slice xa co.length xc] e1 e2 47 cc hg (by kernel_rfl) hcc (by simp [Value.oneCell']) rfl (Grow.row hg hB2 hcc.symm rfl)
                          (fun s h2 => ⟨g, _, (h2 10 (by decide) (by kernel_rfl)).trans e0, hB2, setRow_heap _ _ _ _ _ _ hg, rfl⟩)
                      | i + 13, ho => cases ho
                    · intro vs w4 hvs hG hΦ hpair
                      obtain ⟨y0, y1, y2, y3, y4, y5, y6, y7, y8, y9, y10, y11, y12, rfl⟩ : ∃ y0 y1 y2 y3 y4 y5 y6 y7 y8 y9 y10 y11 y12, vs = [y0, y1, y2, y3, y4, y5, y6, y7, y8, y9, y10, y11, y12] := by
                        match vs, hvs with
                        | [y0, y1, y2, y3, y4, y5, y6, y7, y8, y9, y10, y11, y12], _ => exact ⟨_, _, _, _, _, _, _, _, _, _, _, _, _, rfl⟩
                      obtain ⟨g1, cc1, hy10, hB1, hg1, rfl⟩ : ∃ g cc, y10 = .pointer (some ⟨g, 0, none⟩) ∧ wr.heap.size ≤ g ∧ w4.heap[g]? = some (.cells cc 47 (0, 0)) ∧ cc = #[sV nm, .int .i64 pa, .int .i64 re, .int .i64 pr, .bool cl, .slice xa co.length xc] := hΦ 12 (by decide)
                      obtain ⟨g2, cc2, hy11, hB2, hg2, hs2⟩ : ∃ g cc, y11 = .pointer (some ⟨g, 0, none⟩) ∧ wr.heap.size ≤ g ∧ w4.heap[g]? = some (.cells cc 47 (0, 0)) ∧ cc.size = 6 := hΦ 11 (by decide)
                      have hn : g1 ≠ g2 := fun e => hpair 10 11 (by decide) (by decide) (by decide) rfl rfl (by show y10 = y11; rw [hy10, hy11, e])
                      have hy9 : y9 = .agg #[sV nm2, .int .i64 pa2, .int .i64 re2, .int .i64 pr2, .bool cl2, .slice ya co2.length yc] := hΦ 9 (by decide)
                      have hG2 : Grow wr.heap.size 47 (fun c => c = #[sV nm2, .int .i64 pa2, .int .i64 re2, .int .i64 pr2, .bool cl2, .slice ya co2.length yc]) w4 (w4.setRow g2 #[sV nm2, .int .i64 pa2, .int .i64 re2, .int .i64 pr2, .bool cl2, .slice ya co2.length yc]) := Grow.row hg2 hB2 hs2.symm rfl
                      have hE5 : Ext wr (w4.setRow g2 #[sV nm2, .int .i64 pa2, .int .i64 re2, .int .i64 pr2, .bool cl2, .slice ya co2.length yc]) := Grow.ext (Grow.trans (Grow.of_ext hG.ext) hG2)
                      have hg3 := setRow_heap w4 g2 cc2 #[sV nm2, .int .i64 pa2, .int .i64 re2, .int .i64 pr2, .bool cl2, .slice ya co2.length yc] 47 (0, 0) hg2
                      have hg4 : (w4.setRow g2 #[sV nm2, .int .i64 pa2, .int .i64 re2, .int .i64 pr2, .bool cl2, .slice ya co2.length yc]).heap[g1]? = some (.cells #[sV nm, .int .i64 pa, .int .i64 re, .int .i64 pr, .bool cl, .slice xa co.length xc] 47 (0, 0)) := by
                        simp only [World.setRow, Array.getElem?_modify, if_neg (Ne.symm hn)]
                        exact hg1
                      clear hΦ hvs hG hpair hG2
                      subst hy9 hy10 hy11
                      simp only [putAll, Act.put, List.setIfInBounds_toArray, List.set_cons_succ, List.set_cons_zero]
                      refine wpList_row rfl 47 (.tmp 9) (.tmp 88) rfl g2 #[sV nm2, .int .i64 pa2, .int .i64 re2, .int .i64 pr2, .bool cl2, .slice ya co2.length yc] (by rfl) (by rfl) 47 cc2 hg2 (by kernel_rfl) hs2 (by simp [Value.oneCell']) ?_
                      have HE5 := Lib.hid (Ext.trans HE.out hE5)
                      have HX5 := Lib.hid hE5
                      have HG1 := Lib.hid hg4
                      have HG2 := Lib.hid hg3
                      clear hE5 hg1 hg2 hg3 hg4 hB1 hB2 hs2
                      generalize w4.setRow g2 #[sV nm2, .int .i64 pa2, .int .i64 re2, .int .i64 pr2, .bool cl2, .slice ya co2.length yc] = w5 at *
                      have HBX := Lib.hid (fun W (hW : Ext w5 W) => show (W.cell? ⟨g1, 0, none⟩ = some (sV nm) ∧ W.cell? ⟨g1, 1, none⟩ = some (.int .i64 pa) ∧ W.cell? ⟨g1, 2, none⟩ = some (.int .i64 re) ∧ W.cell? ⟨g1, 3, none⟩ = some (.int .i64 pr) ∧ W.cell? ⟨g1, 4, none⟩ = some (.bool cl) ∧ W.cell? ⟨g1, 5, none⟩ = some (.slice xa co.length xc)) ∧ (W.cell? ⟨g2, 0, none⟩ = some (sV nm2) ∧ W.cell? ⟨g2, 1, none⟩ = some (.int .i64 pa2) ∧ W.cell? ⟨g2, 2, none⟩ = some (.int .i64 re2) ∧ W.cell? ⟨g2, 3, none⟩ = some (.int .i64 pr2) ∧ W.cell? ⟨g2, 4, none⟩ = some (.bool cl2) ∧ W.cell? ⟨g2, 5, none⟩ = some (.slice ya co2.length yc)) from by
                        have h1 := (hW.below.block _ (lt_of_block HG1.out)).trans HG1.out
                        have h2 := (hW.below.block _ (lt_of_block HG2.out)).trans HG2.out
                        exact ⟨⟨cell_of h1 rfl, cell_of h1 rfl, cell_of h1 rfl, cell_of h1 rfl, cell_of h1 rfl, cell_of h1 rfl⟩, cell_of h2 rfl, cell_of h2 rfl, cell_of h2 rfl, cell_of h2 rfl, cell_of h2 rfl, cell_of h2 rfl⟩)
                      clear HG1 HG2
                      clear d0_0 d0_1 d0_2 d1_0 d1_1 d1_2
                      obtain ⟨⟨m0, m1, m2, m3, m4, m5⟩, n0, n1, n2, n3, n4, n5⟩ := HBX.out w5 (Below.refl _ _)
                      by_cases h0 : nm = nm2
                      case neg =>
                        have HV := Lib.hid (HNE.out (fun e => h0 (by cases e; rfl)))
                        clear HNE HNX
                        have g1 : (nm == nm2) = false := beq_eq_false_iff_ne.2 h0
                        have g2 : (nm != nm2) = true := bne_iff_ne.2 h0
                        clear h0
                        go_wp2
                        go_ret
                        exact ⟨by rw [HV.out]; rfl, Ext.trans HW.out HE5.out⟩
                      case pos =>
                        subst h0
                        by_cases h1 : pa = pa2
                        case neg =>
                          have HV := Lib.hid (HNE.out (fun e => h1 (by cases e; rfl)))
                          clear HNE HNX
                          have g1 : (pa == pa2) = false := beq_eq_false_iff_ne.2 h1
                          have g2 : (pa != pa2) = true := bne_iff_ne.2 h1
                          clear h1
                          go_wp2
                          go_ret
                          exact ⟨by rw [HV.out]; rfl, Ext.trans HW.out HE5.out⟩
                        case pos =>
                          subst h1
                          by_cases h2 : re = re2
                          case neg =>
                            have HV := Lib.hid (HNE.out (fun e => h2 (by cases e; rfl)))
                            clear HNE HNX
                            have g1 : (re == re2) = false := beq_eq_false_iff_ne.2 h2
                            have g2 : (re != re2) = true := bne_iff_ne.2 h2
                            clear h2
                            go_wp2
                            go_ret
                            exact ⟨by rw [HV.out]; rfl, Ext.trans HW.out HE5.out⟩
                          case pos =>
                            subst h2
                            by_cases h3 : pr = pr2
                            case neg =>
                              have HV := Lib.hid (HNE.out (fun e => h3 (by cases e; rfl)))
                              clear HNE HNX
                              have g1 : (pr == pr2) = false := beq_eq_false_iff_ne.2 h3
                              have g2 : (pr != pr2) = true := bne_iff_ne.2 h3
                              clear h3
                              go_wp2
                              go_ret
                              exact ⟨by rw [HV.out]; rfl, Ext.trans HW.out HE5.out⟩
                            case pos =>
                              subst h3
                              by_cases h4 : cl = cl2
                              case neg =>
                                have HV := Lib.hid (HNE.out (fun e => h4 (by cases e; rfl)))
                                clear HNE HNX
                                cases cl <;> cases cl2
                                · exact absurd rfl h4
                                ·
                                  clear h4
                                  go_wp2
                                  go_ret
                                  exact ⟨by rw [HV.out]; rfl, Ext.trans HW.out HE5.out⟩
                                ·
                                  clear h4
                                  go_wp2
                                  go_ret
                                  exact ⟨by rw [HV.out]; rfl, Ext.trans HW.out HE5.out⟩
                                · exact absurd rfl h4
                              case pos =>
                                subst h4
                                by_cases h5 : co.length = co2.length
                                case neg =>
                                  have HV := Lib.hid (HNE.out (fun e => h5 (by cases e; rfl)))
                                  have g1 : ((co.length : Int) != (co2.length : Int)) = true := by rw [bne_iff_ne]; omega
                                  clear HNE HNX h5
                                  go_wp2
                                  go_ret
                                  exact ⟨by rw [HV.out]; rfl, Ext.trans HW.out HE5.out⟩
                                case pos =>
                                  have g1 : ((co.length : Int) != (co2.length : Int)) = false := by rw [h5]; simp
                                  have L5 := Lib.hid h5
                                  clear h5
                                  have HJ := Lib.hid (fun (h : co ≠ co2) => HNE.out (fun e => h (by cases e; rfl)))
                                  have HK := Lib.hid (fun (h : co = co2) => HNX.out (by rw [h]))
                                  clear HNE HNX
                                  go_wp2_with fail
                                  clear g1 m0 m1 m2 m3 m4 m5 n0 n1 n2 n3 n4 n5
                                  have HE6 := Lib.hid (show Ext w5 w5 from Below.refl _ _)
                                  generalize wr = wf at *
                                  go_loopw [10] (fun i wr => ∃ j : Nat, j ≤ co.length ∧ i = .int .i64 (j : Int) ∧ (∀ i (h1 : i < co.length) (h2 : i < co2.length), i < j → co[i] = co2[i]) ∧ Ext w5 wr) (fun i _ => co.length - (intOf i).toNat)
                                  case atStart => exact ⟨0, Nat.zero_le _, rfl, fun j _ _ h => absurd h (Nat.not_lt_zero _), HE6.out⟩
                                  case round =>
                                    obtain ⟨j, hj, rfl, hA2, hE6⟩ := hrel
                                    clear HE6
                                    have HE6 := Lib.hid hE6
                                    have HA2 := Lib.hid hA2
                                    clear hE6 hA2
                                    obtain ⟨⟨m0, m1, m2, m3, m4, m5⟩, n0, n1, n2, n3, n4, n5⟩ := HBX.out wr HE6.out
                                    by_cases hlt3 : j < co.length
                                    case neg =>
                                      have HQX := Lib.hid (HK.out (show co = co2 from List.ext_getElem L5.out (fun i h1 h2 => HA2.out i h1 h2 (by omega))))
                                      have HEZ := Lib.hid (Ext.trans HE5.out HE6.out)
                                      go_wp2
                                      go_roundw
                                      case rel => exact ⟨k + 1, by omega, by go_num, HQX.out, HEZ.out⟩
                                      case measure => simp [intOf]; omega
                                    case pos =>
                                      have hlt4 : j < co2.length := L5.out ▸ hlt3
                                      obtain ⟨b3, o3, aa, ac, ha3, hc3, hi3, hl3⟩ := HI1.out wr (Ext.trans HX5.out HE6.out) j hlt3
                                      obtain ⟨b4, o4, ba, bc, ha4, hc4, hi4, hl4⟩ := HI2.out wr (Ext.trans HX5.out HE6.out) j hlt4
                                      subst ha3 ha4
                                      have hw3 := HF1.out _ (List.getElem_mem hlt3)
                                      have hw4 := HF2.out _ (List.getElem_mem hlt4)
                                      have HEQ := Lib.hid (ins_beq co[j] co2[j])
                                      obtain ⟨r2, hr2⟩ : ∃ r2, ((co[j]).op == (co2[j]).op && ((co[j]).a == (co2[j]).a && ((co[j]).b == (co2[j]).b && ((co[j]).c == (co2[j]).c && ((co[j]).args == (co2[j]).args))))) = r2 := ⟨_, rfl⟩
                                      have KS := Lib.hid (fun W (hW : Ext wr W) => show Gives Tryz.prog 34 #[IV co[j] aa ac, IV co2[j] ba bc] W (.bool r2) from by
                                        have h := sameIns_any co[j] co2[j] aa ba ac bc W (hi3.below hW) (hi4.below hW) hw3.len hw4.len
                                        rw [hr2] at h
                                        exact h)
                                      have HTF := Lib.hid (fun (h : r2 = false) => show r = false from HJ.out (fun e => by
                                        have h2 := HEQ.out.2 (by subst e; rfl)
                                        rw [hr2, h] at h2
                                        cases h2))
                                      have HTT := Lib.hid (fun (h : r2 = true) => show ∀ i (h1 : i < co.length) (h2 : i < co2.length), i < j + 1 → co[i] = co2[i] from fun i h1 h2 hi => by
                                        rcases Nat.lt_succ_iff_lt_or_eq.1 hi with h3 | h3
                                        · exact HA2.out i h1 h2 h3
                                        · subst h3; exact HEQ.out.1 (hr2.trans h))
                                      clear hr2 hi3 hi4 hl3 hl4 hw3 hw4 HEQ
                                      obtain ⟨v0, v1, v2, v3, v4⟩ := hc3
                                      obtain ⟨z0, z1, z2, z3, z4⟩ := hc4
                                      generalize co[j] = y at *
                                      generalize co2[j] = z at *
                                      dsimp only [IV] at KS
                                      go_wp2_with fail
                                      have um5 := fun U : Up _ => Up.cell m5 U
                                      have un5 := fun U : Up _ => Up.cell n5 U
                                      have uv0 := fun U : Up _ => Up.cell v0 U
                                      have uv1 := fun U : Up _ => Up.cell v1 U
                                      have uv2 := fun U : Up _ => Up.cell v2 U
                                      have uv3 := fun U : Up _ => Up.cell v3 U
                                      have uv4 := fun U : Up _ => Up.cell v4 U
                                      have uz0 := fun U : Up _ => Up.cell z0 U
                                      have uz1 := fun U : Up _ => Up.cell z1 U
                                      have uz2 := fun U : Up _ => Up.cell z2 U
                                      have uz3 := fun U : Up _ => Up.cell z3 U
                                      have uz4 := fun U : Up _ => Up.cell z4 U
                                      refine wp_region_up (by kernel_rfl) (by kernel_rfl) ?_
                                      repeat (go_big_quiet_step (first | (go_at_call 34; refine Up.callE (fun W hW => KS.out W hW) ?_; with_reducible rfl)))
                                      refine wpQuiet_nil ?_
                                      rintro _ ⟨U, rfl⟩
                                      have HE7 := Lib.hid (Ext.trans HE6.out U.ext)
                                      generalize U.W = w6 at *
                                      clear um5 m5 un5 n5 uv0 v0 uv1 v1 uv2 v2 uv3 v3 uv4 v4 uz0 z0 uz1 z1 uz2 z2 uz3 z3 uz4 z4 m0 m1 m2 m3 m4 n0 n1 n2 n3 n4
                                      cases r2 with
                                      | true =>
                                        go_wp2
                                        go_roundw
                                        case rel => exact ⟨j + 1, by omega, by go_num, HTT.out rfl, HE7.out⟩
                                        case measure => simp [intOf]; omega
                                      | false =>
                                        have HV := Lib.hid (HTF.out rfl)
                                        go_wp2
                                        go_ret
                                        exact ⟨by rw [HV.out]; rfl, Ext.trans HW.out (Ext.trans HE5.out HE7.out)⟩

end Go.Proofs.YtfkjokbhnblndaaGreatDoor
