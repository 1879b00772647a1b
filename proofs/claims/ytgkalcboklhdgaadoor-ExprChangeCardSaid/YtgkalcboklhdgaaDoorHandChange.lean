/- The statement ExprChangeCardSaid: for every input the law returns true, and the arguments read as before; the tables of the library that it lists are tied to the text. The frame round the walk of the law. (With it: ExprChange: the walk.) -/
import Derived.Test.YtgkalcboklhdgaaDoorCards
import Derived.Test.YtgkalcboklhdgaaDoorTie
import Derived.WalkKit
import Derived.ProofKit
import Derived.OpenShut
import Derived.ShutString
import Derived.ChangeOld
import Derived.Below
import Derived.Deep.DeepHandedRow
import Derived.Lib.LaidTab
import Derived.Shelf.Vars
import Derived.Test.YtgkalcboklhdgaaDoorPart8
import Derived.Test.YtgkalcboklhdgaaDoorPart7

namespace Go.Proofs.YtgkalcboklhdgaaDoor
open Go.RowKit
set_option linter.unusedVariables false
set_option linter.unusedSimpArgs false
open Ex

theorem sbR_ok (e : Ex) (m : List UInt8) (r : Ex) : (sbR e m r).1 = exZ ∨ (sbR e m r).1.chk = 0 := by
  unfold sbR
  by_cases h1 : e.chk ≠ 0 ∨ r.chk ≠ 0
  · rw [if_pos h1]; exact .inl rfl
  · rw [if_neg h1]
    by_cases h2 : isNm m = false
    · rw [if_pos h2]; exact .inl rfl
    · rw [if_neg h2]
      by_cases h3 : (mp (subOne m r) e).chk ≠ 0
      · rw [if_pos h3]; exact .inl rfl
      · rw [if_neg h3]; exact .inr (Classical.not_not.1 h3)
set_option maxRecDepth 100000 in
set_option maxHeartbeats 8000000 in
theorem exprChange_of (e : Ex) (p : Option Addr) (c : Nat) (nm : List UInt8) (hnm : nm.length ≤ 140737488355328) (r : Ex) (p2 : Option Addr) (c2 : Nat) (w : World) (hA : Ex.At w p e) (hR : Ex.At w p2 r) :
    Gives Tryd.prog 6 #[e.val p c, sV nm, r.val p2 c2] w (.bool true) := by
  have C0 := Lib.hid (fun W (h : Ext w W) => show Gives _ _ #[.agg #[.int .i64 e.kind, .int .i64 e.op, sV e.name, .int .i64 e.value, .slice p e.args.length c]] _ _ from Great_any e p c W (hA.below h))
  have C1 := Lib.hid (fun W (h : Ext w W) => show Gives _ _ #[.agg #[.int .i64 r.kind, .int .i64 r.op, sV r.name, .int .i64 r.value, .slice p2 r.args.length c2]] _ _ from Great_any r p2 c2 W (hR.below h))
  have CF := Lib.hid (fun W (h : Ext w W) => show Calls _ _ #[.agg #[.int .i64 e.kind, .int .i64 e.op, sV e.name, .int .i64 e.value, .slice p e.args.length c]] _ (fun x w' => ∃ q d, x = .returned (.tuple #[.agg #[.int .i64 (fdR e).1.kind, .int .i64 (fdR e).1.op, sV (fdR e).1.name, .int .i64 (fdR e).1.value, .slice q (fdR e).1.args.length d], .int .i64 (fdR e).2]) ∧ Ex.At w' q (fdR e).1 ∧ Ext W w') from (Fold_of e p c W (hA.below h)).mono (fun x w' ⟨a, q, d, b, c⟩ => ⟨q, d, b, c, a⟩))
  have CG := Lib.hid (fun W (h : Ext w W) => show Calls _ _ #[.agg #[.int .i64 e.kind, .int .i64 e.op, sV e.name, .int .i64 e.value, .slice p e.args.length c]] _ (fun x w' => ∃ q d, x = .returned (.tuple #[.agg #[.int .i64 (fdR e).1.kind, .int .i64 (fdR e).1.op, sV (fdR e).1.name, .int .i64 (fdR e).1.value, .slice q (fdR e).1.args.length d], .int .i64 (fdR e).2]) ∧ Ex.At w' q (fdR e).1 ∧ Ext W w') from (refFold_of e p c W (hA.below h)).mono (fun x w' ⟨a, q, d, b, c⟩ => ⟨q, d, b, c, a⟩))
  have CS := Lib.hid (fun W (h : Ext w W) => show Calls _ _ #[.agg #[.int .i64 e.kind, .int .i64 e.op, sV e.name, .int .i64 e.value, .slice p e.args.length c], sV nm, .agg #[.int .i64 r.kind, .int .i64 r.op, sV r.name, .int .i64 r.value, .slice p2 r.args.length c2]] _ (fun x w' => ∃ q d, x = .returned (.tuple #[.agg #[.int .i64 (sbR e nm r).1.kind, .int .i64 (sbR e nm r).1.op, sV (sbR e nm r).1.name, .int .i64 (sbR e nm r).1.value, .slice q (sbR e nm r).1.args.length d], .int .i64 (sbR e nm r).2]) ∧ Ex.At w' q (sbR e nm r).1 ∧ Ext W w') from (Substitute_of e p c nm hnm r p2 c2 W (hA.below h) (hR.below h)).mono (fun x w' ⟨a, q, d, b, c⟩ => ⟨q, d, b, c, a⟩))
  have CT := Lib.hid (fun W (h : Ext w W) => show Calls _ _ #[.agg #[.int .i64 e.kind, .int .i64 e.op, sV e.name, .int .i64 e.value, .slice p e.args.length c], sV nm, .agg #[.int .i64 r.kind, .int .i64 r.op, sV r.name, .int .i64 r.value, .slice p2 r.args.length c2]] _ (fun x w' => ∃ q d, x = .returned (.tuple #[.agg #[.int .i64 (sbR e nm r).1.kind, .int .i64 (sbR e nm r).1.op, sV (sbR e nm r).1.name, .int .i64 (sbR e nm r).1.value, .slice q (sbR e nm r).1.args.length d], .int .i64 (sbR e nm r).2]) ∧ Ex.At w' q (sbR e nm r).1 ∧ Ext W w') from (refSubstitute_of e p c nm hnm r p2 c2 W (hA.below h) (hR.below h)).mono (fun x w' ⟨a, q, d, b, c⟩ => ⟨q, d, b, c, a⟩))
  have CM := Lib.hid (fun p c p' c' W (h : Ex.At W p (fdR e).1) (h2 : Ex.At W p' (fdR e).1) => show Gives _ _ #[.agg #[.int .i64 (fdR e).1.kind, .int .i64 (fdR e).1.op, sV (fdR e).1.name, .int .i64 (fdR e).1.value, .slice p (fdR e).1.args.length c], .agg #[.int .i64 (fdR e).1.kind, .int .i64 (fdR e).1.op, sV (fdR e).1.name, .int .i64 (fdR e).1.value, .slice p' (fdR e).1.args.length c']] W (.bool true) from lawSame_refl (fdR e).1 (fdR_ok e) p p' c c' W h h2)
  have CN := Lib.hid (fun p c p' c' W (h : Ex.At W p (sbR e nm r).1) (h2 : Ex.At W p' (sbR e nm r).1) => show Gives _ _ #[.agg #[.int .i64 (sbR e nm r).1.kind, .int .i64 (sbR e nm r).1.op, sV (sbR e nm r).1.name, .int .i64 (sbR e nm r).1.value, .slice p (sbR e nm r).1.args.length c], .agg #[.int .i64 (sbR e nm r).1.kind, .int .i64 (sbR e nm r).1.op, sV (sbR e nm r).1.name, .int .i64 (sbR e nm r).1.value, .slice p' (sbR e nm r).1.args.length c']] W (.bool true) from lawSame_refl (sbR e nm r).1 (sbR_ok e nm r) p p' c c' W h h2)
  have CA := Lib.hid (fun W => awake_any W)
  have hv : e.val p c = .agg #[.int .i64 e.kind, .int .i64 e.op, sV e.name, .int .i64 e.value, .slice p e.args.length c] := rfl
  have hv2 : r.val p2 c2 = .agg #[.int .i64 r.kind, .int .i64 r.op, sV r.name, .int .i64 r.value, .slice p2 r.args.length c2] := rfl
  rw [hv, hv2]
  clear hv hv2 hA hR
  generalize e.great = ge at *
  generalize r.great = gr at *
  generalize fdR e = F at *
  generalize sbR e nm r = S at *
  generalize e.kind = k1 at *
  generalize e.op = o1 at *
  generalize e.name = n1 at *
  generalize e.value = v1 at *
  generalize e.args.length = l1 at *
  generalize r.kind = k2 at *
  generalize r.op = o2 at *
  generalize r.name = n2 at *
  generalize r.value = v2 at *
  generalize r.args.length = l2 at *
  obtain ⟨hb1, hb2, hE⟩ := two_boxes w (.int .i64 k1) (.int .i64 o1) (sV n1) (.int .i64 v1) (.slice p l1 c) (.int .i64 k2) (.int .i64 o2) (sV n2) (.int .i64 v2) (.slice p2 l2 c2) tEx
  have Ka := Lib.hid hb1
  have Kb := Lib.hid hb2
  have HX := Lib.hid hE
  clear hb1 hb2 hE
  unfold Gives
  cases ge with
  | true =>
    go_enter Tryd.func6, Tryd.ntmps6
    obtain ⟨a0, a1, a2, a3, a4, a5⟩ := box5z Ka.out
    have lta := lt_of_block Ka.out
    obtain ⟨b0, b1, b2, b3, b4, b5⟩ := box5z Kb.out
    have ltb := lt_of_block Kb.out
    go_wp2_with fail
    refine (C0.out _ HX.out).mono ?_
    intro w1 hE
    replace hE : Ext _ w1 := hE
    clear a0 a1 a2 a3 a4 a5 lta
    clear b0 b1 b2 b3 b4 b5 ltb
    replace Ka := Lib.hid ((hE.below.block _ (lt_of_block Ka.out)).trans Ka.out)
    replace Kb := Lib.hid ((hE.below.block _ (lt_of_block Kb.out)).trans Kb.out)
    replace HX := Lib.hid (Ext.trans HX.out hE)
    clear hE
    obtain ⟨a0, a1, a2, a3, a4, a5⟩ := box5z Ka.out
    have lta := lt_of_block Ka.out
    obtain ⟨b0, b1, b2, b3, b4, b5⟩ := box5z Kb.out
    have ltb := lt_of_block Kb.out
    go_wp2_with fail
    refine (CA.out _).mono ?_
    intro w2 hE
    replace hE : Ext _ w2 := hE
    clear a0 a1 a2 a3 a4 a5 lta
    clear b0 b1 b2 b3 b4 b5 ltb
    replace Ka := Lib.hid ((hE.below.block _ (lt_of_block Ka.out)).trans Ka.out)
    replace Kb := Lib.hid ((hE.below.block _ (lt_of_block Kb.out)).trans Kb.out)
    replace HX := Lib.hid (Ext.trans HX.out hE)
    clear hE
    obtain ⟨a0, a1, a2, a3, a4, a5⟩ := box5z Ka.out
    have lta := lt_of_block Ka.out
    obtain ⟨b0, b1, b2, b3, b4, b5⟩ := box5z Kb.out
    have ltb := lt_of_block Kb.out
    clear a0 a1 a2 a3 a4 a5 lta
    clear b0 b1 b2 b3 b4 b5 ltb
    go_wp2
    go_ret
    exact ⟨rfl, HX.out⟩
  | false =>
    cases gr with
    | true =>
      go_enter Tryd.func6, Tryd.ntmps6
      obtain ⟨a0, a1, a2, a3, a4, a5⟩ := box5z Ka.out
      have lta := lt_of_block Ka.out
      obtain ⟨b0, b1, b2, b3, b4, b5⟩ := box5z Kb.out
      have ltb := lt_of_block Kb.out
      go_wp2_with fail
      refine (C0.out _ HX.out).mono ?_
      intro w1 hE
      replace hE : Ext _ w1 := hE
      clear a0 a1 a2 a3 a4 a5 lta
      clear b0 b1 b2 b3 b4 b5 ltb
      replace Ka := Lib.hid ((hE.below.block _ (lt_of_block Ka.out)).trans Ka.out)
      replace Kb := Lib.hid ((hE.below.block _ (lt_of_block Kb.out)).trans Kb.out)
      replace HX := Lib.hid (Ext.trans HX.out hE)
      clear hE
      obtain ⟨a0, a1, a2, a3, a4, a5⟩ := box5z Ka.out
      have lta := lt_of_block Ka.out
      obtain ⟨b0, b1, b2, b3, b4, b5⟩ := box5z Kb.out
      have ltb := lt_of_block Kb.out
      go_wp2_with fail
      refine (C1.out _ HX.out).mono ?_
      intro w2 hE
      replace hE : Ext _ w2 := hE
      clear a0 a1 a2 a3 a4 a5 lta
      clear b0 b1 b2 b3 b4 b5 ltb
      replace Ka := Lib.hid ((hE.below.block _ (lt_of_block Ka.out)).trans Ka.out)
      replace Kb := Lib.hid ((hE.below.block _ (lt_of_block Kb.out)).trans Kb.out)
      replace HX := Lib.hid (Ext.trans HX.out hE)
      clear hE
      obtain ⟨a0, a1, a2, a3, a4, a5⟩ := box5z Ka.out
      have lta := lt_of_block Ka.out
      obtain ⟨b0, b1, b2, b3, b4, b5⟩ := box5z Kb.out
      have ltb := lt_of_block Kb.out
      go_wp2_with fail
      refine (CA.out _).mono ?_
      intro w3 hE
      replace hE : Ext _ w3 := hE
      clear a0 a1 a2 a3 a4 a5 lta
      clear b0 b1 b2 b3 b4 b5 ltb
      replace Ka := Lib.hid ((hE.below.block _ (lt_of_block Ka.out)).trans Ka.out)
      replace Kb := Lib.hid ((hE.below.block _ (lt_of_block Kb.out)).trans Kb.out)
      replace HX := Lib.hid (Ext.trans HX.out hE)
      clear hE
      obtain ⟨a0, a1, a2, a3, a4, a5⟩ := box5z Ka.out
      have lta := lt_of_block Ka.out
      obtain ⟨b0, b1, b2, b3, b4, b5⟩ := box5z Kb.out
      have ltb := lt_of_block Kb.out
      clear a0 a1 a2 a3 a4 a5 lta
      clear b0 b1 b2 b3 b4 b5 ltb
      go_wp2
      go_ret
      exact ⟨rfl, HX.out⟩
    | false =>
      by_cases hl : 40 < nm.length
      · go_enter Tryd.func6, Tryd.ntmps6
        obtain ⟨a0, a1, a2, a3, a4, a5⟩ := box5z Ka.out
        have lta := lt_of_block Ka.out
        obtain ⟨b0, b1, b2, b3, b4, b5⟩ := box5z Kb.out
        have ltb := lt_of_block Kb.out
        go_wp2_with fail
        refine (C0.out _ HX.out).mono ?_
        intro w1 hE
        replace hE : Ext _ w1 := hE
        clear a0 a1 a2 a3 a4 a5 lta
        clear b0 b1 b2 b3 b4 b5 ltb
        replace Ka := Lib.hid ((hE.below.block _ (lt_of_block Ka.out)).trans Ka.out)
        replace Kb := Lib.hid ((hE.below.block _ (lt_of_block Kb.out)).trans Kb.out)
        replace HX := Lib.hid (Ext.trans HX.out hE)
        clear hE
        obtain ⟨a0, a1, a2, a3, a4, a5⟩ := box5z Ka.out
        have lta := lt_of_block Ka.out
        obtain ⟨b0, b1, b2, b3, b4, b5⟩ := box5z Kb.out
        have ltb := lt_of_block Kb.out
        go_wp2_with fail
        refine (C1.out _ HX.out).mono ?_
        intro w2 hE
        replace hE : Ext _ w2 := hE
        clear a0 a1 a2 a3 a4 a5 lta
        clear b0 b1 b2 b3 b4 b5 ltb
        replace Ka := Lib.hid ((hE.below.block _ (lt_of_block Ka.out)).trans Ka.out)
        replace Kb := Lib.hid ((hE.below.block _ (lt_of_block Kb.out)).trans Kb.out)
        replace HX := Lib.hid (Ext.trans HX.out hE)
        clear hE
        obtain ⟨a0, a1, a2, a3, a4, a5⟩ := box5z Ka.out
        have lta := lt_of_block Ka.out
        obtain ⟨b0, b1, b2, b3, b4, b5⟩ := box5z Kb.out
        have ltb := lt_of_block Kb.out
        go_wp2_with fail
        refine (CA.out _).mono ?_
        intro w3 hE
        replace hE : Ext _ w3 := hE
        clear a0 a1 a2 a3 a4 a5 lta
        clear b0 b1 b2 b3 b4 b5 ltb
        replace Ka := Lib.hid ((hE.below.block _ (lt_of_block Ka.out)).trans Ka.out)
        replace Kb := Lib.hid ((hE.below.block _ (lt_of_block Kb.out)).trans Kb.out)
        replace HX := Lib.hid (Ext.trans HX.out hE)
        clear hE
        obtain ⟨a0, a1, a2, a3, a4, a5⟩ := box5z Ka.out
        have lta := lt_of_block Ka.out
        obtain ⟨b0, b1, b2, b3, b4, b5⟩ := box5z Kb.out
        have ltb := lt_of_block Kb.out
        clear a0 a1 a2 a3 a4 a5 lta
        clear b0 b1 b2 b3 b4 b5 ltb
        go_wp2
        go_ret
        exact ⟨rfl, HX.out⟩
      · go_enter Tryd.func6, Tryd.ntmps6
        obtain ⟨a0, a1, a2, a3, a4, a5⟩ := box5z Ka.out
        have lta := lt_of_block Ka.out
        obtain ⟨b0, b1, b2, b3, b4, b5⟩ := box5z Kb.out
        have ltb := lt_of_block Kb.out
        go_wp2_with fail
        refine (C0.out _ HX.out).mono ?_
        intro w1 hE
        replace hE : Ext _ w1 := hE
        clear a0 a1 a2 a3 a4 a5 lta
        clear b0 b1 b2 b3 b4 b5 ltb
        replace Ka := Lib.hid ((hE.below.block _ (lt_of_block Ka.out)).trans Ka.out)
        replace Kb := Lib.hid ((hE.below.block _ (lt_of_block Kb.out)).trans Kb.out)
        replace HX := Lib.hid (Ext.trans HX.out hE)
        clear hE
        obtain ⟨a0, a1, a2, a3, a4, a5⟩ := box5z Ka.out
        have lta := lt_of_block Ka.out
        obtain ⟨b0, b1, b2, b3, b4, b5⟩ := box5z Kb.out
        have ltb := lt_of_block Kb.out
        go_wp2_with fail
        refine (C1.out _ HX.out).mono ?_
        intro w2 hE
        replace hE : Ext _ w2 := hE
        clear a0 a1 a2 a3 a4 a5 lta
        clear b0 b1 b2 b3 b4 b5 ltb
        replace Ka := Lib.hid ((hE.below.block _ (lt_of_block Ka.out)).trans Ka.out)
        replace Kb := Lib.hid ((hE.below.block _ (lt_of_block Kb.out)).trans Kb.out)
        replace HX := Lib.hid (Ext.trans HX.out hE)
        clear hE
        obtain ⟨a0, a1, a2, a3, a4, a5⟩ := box5z Ka.out
        have lta := lt_of_block Ka.out
        obtain ⟨b0, b1, b2, b3, b4, b5⟩ := box5z Kb.out
        have ltb := lt_of_block Kb.out
        go_wp2_with fail
        refine (CF.out _ HX.out).mono ?_
        rintro _ w3 ⟨q3, d3, rfl, hA3, hE⟩
        replace hE : Ext _ w3 := hE
        clear a0 a1 a2 a3 a4 a5 lta
        clear b0 b1 b2 b3 b4 b5 ltb
        replace Ka := Lib.hid ((hE.below.block _ (lt_of_block Ka.out)).trans Ka.out)
        replace Kb := Lib.hid ((hE.below.block _ (lt_of_block Kb.out)).trans Kb.out)
        replace HX := Lib.hid (Ext.trans HX.out hE)
        have HAf := Lib.hid hA3
        clear hA3
        clear hE
        obtain ⟨a0, a1, a2, a3, a4, a5⟩ := box5z Ka.out
        have lta := lt_of_block Ka.out
        obtain ⟨b0, b1, b2, b3, b4, b5⟩ := box5z Kb.out
        have ltb := lt_of_block Kb.out
        have hE : Ext w3 (w3.alloc (.cells #[.int .i64 F.1.kind, .int .i64 F.1.op, sV F.1.name, .int .i64 F.1.value, .slice q3 F.1.args.length d3] tEx)) := (Below.refl _ _).alloc (Nat.le_refl _) _
        have Kf := Lib.hid (alloc_here w3 (.cells #[.int .i64 F.1.kind, .int .i64 F.1.op, sV F.1.name, .int .i64 F.1.value, .slice q3 F.1.args.length d3] tEx))
        replace Ka := Lib.hid ((hE.below.block _ (lt_of_block Ka.out)).trans Ka.out)
        replace Kb := Lib.hid ((hE.below.block _ (lt_of_block Kb.out)).trans Kb.out)
        replace HAf := Lib.hid (HAf.out.below hE)
        replace HX := Lib.hid (Ext.trans HX.out hE)
        clear hE
        go_wp2_with fail
        refine (CG.out _ HX.out).mono ?_
        rintro _ w4 ⟨q4, d4, rfl, hA4, hE⟩
        replace hE : Ext _ w4 := hE
        clear a0 a1 a2 a3 a4 a5 lta
        clear b0 b1 b2 b3 b4 b5 ltb
        replace Ka := Lib.hid ((hE.below.block _ (lt_of_block Ka.out)).trans Ka.out)
        replace Kb := Lib.hid ((hE.below.block _ (lt_of_block Kb.out)).trans Kb.out)
        replace Kf := Lib.hid ((hE.below.block _ (lt_of_block Kf.out)).trans Kf.out)
        replace HAf := Lib.hid (HAf.out.below hE)
        replace HX := Lib.hid (Ext.trans HX.out hE)
        have HAg := Lib.hid hA4
        clear hA4
        clear hE
        obtain ⟨a0, a1, a2, a3, a4, a5⟩ := box5z Ka.out
        have lta := lt_of_block Ka.out
        obtain ⟨b0, b1, b2, b3, b4, b5⟩ := box5z Kb.out
        have ltb := lt_of_block Kb.out
        obtain ⟨f0, f1, f2, f3, f4, f5⟩ := box5z Kf.out
        have ltf := lt_of_block Kf.out
        have hE : Ext w4 (w4.alloc (.cells #[.int .i64 F.1.kind, .int .i64 F.1.op, sV F.1.name, .int .i64 F.1.value, .slice q4 F.1.args.length d4] tEx)) := (Below.refl _ _).alloc (Nat.le_refl _) _
        have Kg := Lib.hid (alloc_here w4 (.cells #[.int .i64 F.1.kind, .int .i64 F.1.op, sV F.1.name, .int .i64 F.1.value, .slice q4 F.1.args.length d4] tEx))
        replace Ka := Lib.hid ((hE.below.block _ (lt_of_block Ka.out)).trans Ka.out)
        replace Kb := Lib.hid ((hE.below.block _ (lt_of_block Kb.out)).trans Kb.out)
        replace Kf := Lib.hid ((hE.below.block _ (lt_of_block Kf.out)).trans Kf.out)
        replace HAf := Lib.hid (HAf.out.below hE)
        replace HAg := Lib.hid (HAg.out.below hE)
        replace HX := Lib.hid (Ext.trans HX.out hE)
        clear hE
        go_wp2_with fail
        refine (CS.out _ HX.out).mono ?_
        rintro _ w5 ⟨q5, d5, rfl, hA5, hE⟩
        replace hE : Ext _ w5 := hE
        clear a0 a1 a2 a3 a4 a5 lta
        clear b0 b1 b2 b3 b4 b5 ltb
        clear f0 f1 f2 f3 f4 f5 ltf
        replace Ka := Lib.hid ((hE.below.block _ (lt_of_block Ka.out)).trans Ka.out)
        replace Kb := Lib.hid ((hE.below.block _ (lt_of_block Kb.out)).trans Kb.out)
        replace Kf := Lib.hid ((hE.below.block _ (lt_of_block Kf.out)).trans Kf.out)
        replace Kg := Lib.hid ((hE.below.block _ (lt_of_block Kg.out)).trans Kg.out)
        replace HAf := Lib.hid (HAf.out.below hE)
        replace HAg := Lib.hid (HAg.out.below hE)
        replace HX := Lib.hid (Ext.trans HX.out hE)
        have HAs := Lib.hid hA5
        clear hA5
        clear hE
        obtain ⟨a0, a1, a2, a3, a4, a5⟩ := box5z Ka.out
        have lta := lt_of_block Ka.out
        obtain ⟨b0, b1, b2, b3, b4, b5⟩ := box5z Kb.out
        have ltb := lt_of_block Kb.out
        obtain ⟨f0, f1, f2, f3, f4, f5⟩ := box5z Kf.out
        have ltf := lt_of_block Kf.out
        obtain ⟨g0, g1, g2, g3, g4, g5⟩ := box5z Kg.out
        have ltg := lt_of_block Kg.out
        have hE : Ext w5 (w5.alloc (.cells #[.int .i64 S.1.kind, .int .i64 S.1.op, sV S.1.name, .int .i64 S.1.value, .slice q5 S.1.args.length d5] tEx)) := (Below.refl _ _).alloc (Nat.le_refl _) _
        have Ks := Lib.hid (alloc_here w5 (.cells #[.int .i64 S.1.kind, .int .i64 S.1.op, sV S.1.name, .int .i64 S.1.value, .slice q5 S.1.args.length d5] tEx))
        replace Ka := Lib.hid ((hE.below.block _ (lt_of_block Ka.out)).trans Ka.out)
        replace Kb := Lib.hid ((hE.below.block _ (lt_of_block Kb.out)).trans Kb.out)
        replace Kf := Lib.hid ((hE.below.block _ (lt_of_block Kf.out)).trans Kf.out)
        replace Kg := Lib.hid ((hE.below.block _ (lt_of_block Kg.out)).trans Kg.out)
        replace HAf := Lib.hid (HAf.out.below hE)
        replace HAg := Lib.hid (HAg.out.below hE)
        replace HAs := Lib.hid (HAs.out.below hE)
        replace HX := Lib.hid (Ext.trans HX.out hE)
        clear hE
        go_wp2_with fail
        refine (CT.out _ HX.out).mono ?_
        rintro _ w6 ⟨q6, d6, rfl, hA6, hE⟩
        replace hE : Ext _ w6 := hE
        clear a0 a1 a2 a3 a4 a5 lta
        clear b0 b1 b2 b3 b4 b5 ltb
        clear f0 f1 f2 f3 f4 f5 ltf
        clear g0 g1 g2 g3 g4 g5 ltg
        replace Ka := Lib.hid ((hE.below.block _ (lt_of_block Ka.out)).trans Ka.out)
        replace Kb := Lib.hid ((hE.below.block _ (lt_of_block Kb.out)).trans Kb.out)
        replace Kf := Lib.hid ((hE.below.block _ (lt_of_block Kf.out)).trans Kf.out)
        replace Kg := Lib.hid ((hE.below.block _ (lt_of_block Kg.out)).trans Kg.out)
        replace Ks := Lib.hid ((hE.below.block _ (lt_of_block Ks.out)).trans Ks.out)
        replace HAf := Lib.hid (HAf.out.below hE)
        replace HAg := Lib.hid (HAg.out.below hE)
        replace HAs := Lib.hid (HAs.out.below hE)
        replace HX := Lib.hid (Ext.trans HX.out hE)
        have HAt := Lib.hid hA6
        clear hA6
        clear hE
        obtain ⟨a0, a1, a2, a3, a4, a5⟩ := box5z Ka.out
        have lta := lt_of_block Ka.out
        obtain ⟨b0, b1, b2, b3, b4, b5⟩ := box5z Kb.out
        have ltb := lt_of_block Kb.out
        obtain ⟨f0, f1, f2, f3, f4, f5⟩ := box5z Kf.out
        have ltf := lt_of_block Kf.out
        obtain ⟨g0, g1, g2, g3, g4, g5⟩ := box5z Kg.out
        have ltg := lt_of_block Kg.out
        obtain ⟨s0, s1, s2, s3, s4, s5⟩ := box5z Ks.out
        have lts := lt_of_block Ks.out
        have hE : Ext w6 (w6.alloc (.cells #[.int .i64 S.1.kind, .int .i64 S.1.op, sV S.1.name, .int .i64 S.1.value, .slice q6 S.1.args.length d6] tEx)) := (Below.refl _ _).alloc (Nat.le_refl _) _
        have Kt := Lib.hid (alloc_here w6 (.cells #[.int .i64 S.1.kind, .int .i64 S.1.op, sV S.1.name, .int .i64 S.1.value, .slice q6 S.1.args.length d6] tEx))
        replace Ka := Lib.hid ((hE.below.block _ (lt_of_block Ka.out)).trans Ka.out)
        replace Kb := Lib.hid ((hE.below.block _ (lt_of_block Kb.out)).trans Kb.out)
        replace Kf := Lib.hid ((hE.below.block _ (lt_of_block Kf.out)).trans Kf.out)
        replace Kg := Lib.hid ((hE.below.block _ (lt_of_block Kg.out)).trans Kg.out)
        replace Ks := Lib.hid ((hE.below.block _ (lt_of_block Ks.out)).trans Ks.out)
        replace HAf := Lib.hid (HAf.out.below hE)
        replace HAg := Lib.hid (HAg.out.below hE)
        replace HAs := Lib.hid (HAs.out.below hE)
        replace HAt := Lib.hid (HAt.out.below hE)
        replace HX := Lib.hid (Ext.trans HX.out hE)
        clear hE
        go_wp2_with fail
        refine (CM.out _ _ _ _ _ HAf.out HAg.out).mono ?_
        intro w7 hE
        replace hE : Ext _ w7 := hE
        clear a0 a1 a2 a3 a4 a5 lta
        clear b0 b1 b2 b3 b4 b5 ltb
        clear f0 f1 f2 f3 f4 f5 ltf
        clear g0 g1 g2 g3 g4 g5 ltg
        clear s0 s1 s2 s3 s4 s5 lts
        replace Ka := Lib.hid ((hE.below.block _ (lt_of_block Ka.out)).trans Ka.out)
        replace Kb := Lib.hid ((hE.below.block _ (lt_of_block Kb.out)).trans Kb.out)
        replace Kf := Lib.hid ((hE.below.block _ (lt_of_block Kf.out)).trans Kf.out)
        replace Kg := Lib.hid ((hE.below.block _ (lt_of_block Kg.out)).trans Kg.out)
        replace Ks := Lib.hid ((hE.below.block _ (lt_of_block Ks.out)).trans Ks.out)
        replace Kt := Lib.hid ((hE.below.block _ (lt_of_block Kt.out)).trans Kt.out)
        replace HAf := Lib.hid (HAf.out.below hE)
        replace HAg := Lib.hid (HAg.out.below hE)
        replace HAs := Lib.hid (HAs.out.below hE)
        replace HAt := Lib.hid (HAt.out.below hE)
        replace HX := Lib.hid (Ext.trans HX.out hE)
        clear hE
        obtain ⟨a0, a1, a2, a3, a4, a5⟩ := box5z Ka.out
        have lta := lt_of_block Ka.out
        obtain ⟨b0, b1, b2, b3, b4, b5⟩ := box5z Kb.out
        have ltb := lt_of_block Kb.out
        obtain ⟨f0, f1, f2, f3, f4, f5⟩ := box5z Kf.out
        have ltf := lt_of_block Kf.out
        obtain ⟨g0, g1, g2, g3, g4, g5⟩ := box5z Kg.out
        have ltg := lt_of_block Kg.out
        obtain ⟨s0, s1, s2, s3, s4, s5⟩ := box5z Ks.out
        have lts := lt_of_block Ks.out
        obtain ⟨t0, t1, t2, t3, t4, t5⟩ := box5z Kt.out
        have ltt := lt_of_block Kt.out
        go_wp2_with fail
        refine (CN.out _ _ _ _ _ HAs.out HAt.out).mono ?_
        intro w8 hE
        replace hE : Ext _ w8 := hE
        clear a0 a1 a2 a3 a4 a5 lta
        clear b0 b1 b2 b3 b4 b5 ltb
        clear f0 f1 f2 f3 f4 f5 ltf
        clear g0 g1 g2 g3 g4 g5 ltg
        clear s0 s1 s2 s3 s4 s5 lts
        clear t0 t1 t2 t3 t4 t5 ltt
        replace Ka := Lib.hid ((hE.below.block _ (lt_of_block Ka.out)).trans Ka.out)
        replace Kb := Lib.hid ((hE.below.block _ (lt_of_block Kb.out)).trans Kb.out)
        replace Kf := Lib.hid ((hE.below.block _ (lt_of_block Kf.out)).trans Kf.out)
        replace Kg := Lib.hid ((hE.below.block _ (lt_of_block Kg.out)).trans Kg.out)
        replace Ks := Lib.hid ((hE.below.block _ (lt_of_block Ks.out)).trans Ks.out)
        replace Kt := Lib.hid ((hE.below.block _ (lt_of_block Kt.out)).trans Kt.out)
        replace HAf := Lib.hid (HAf.out.below hE)
        replace HAg := Lib.hid (HAg.out.below hE)
        replace HAs := Lib.hid (HAs.out.below hE)
        replace HAt := Lib.hid (HAt.out.below hE)
        replace HX := Lib.hid (Ext.trans HX.out hE)
        clear hE
        obtain ⟨a0, a1, a2, a3, a4, a5⟩ := box5z Ka.out
        have lta := lt_of_block Ka.out
        obtain ⟨b0, b1, b2, b3, b4, b5⟩ := box5z Kb.out
        have ltb := lt_of_block Kb.out
        obtain ⟨f0, f1, f2, f3, f4, f5⟩ := box5z Kf.out
        have ltf := lt_of_block Kf.out
        obtain ⟨g0, g1, g2, g3, g4, g5⟩ := box5z Kg.out
        have ltg := lt_of_block Kg.out
        obtain ⟨s0, s1, s2, s3, s4, s5⟩ := box5z Ks.out
        have lts := lt_of_block Ks.out
        obtain ⟨t0, t1, t2, t3, t4, t5⟩ := box5z Kt.out
        have ltt := lt_of_block Kt.out
        go_wp2_with fail
        refine (CA.out _).mono ?_
        intro w9 hE
        replace hE : Ext _ w9 := hE
        clear a0 a1 a2 a3 a4 a5 lta
        clear b0 b1 b2 b3 b4 b5 ltb
        clear f0 f1 f2 f3 f4 f5 ltf
        clear g0 g1 g2 g3 g4 g5 ltg
        clear s0 s1 s2 s3 s4 s5 lts
        clear t0 t1 t2 t3 t4 t5 ltt
        replace Ka := Lib.hid ((hE.below.block _ (lt_of_block Ka.out)).trans Ka.out)
        replace Kb := Lib.hid ((hE.below.block _ (lt_of_block Kb.out)).trans Kb.out)
        replace Kf := Lib.hid ((hE.below.block _ (lt_of_block Kf.out)).trans Kf.out)
        replace Kg := Lib.hid ((hE.below.block _ (lt_of_block Kg.out)).trans Kg.out)
        replace Ks := Lib.hid ((hE.below.block _ (lt_of_block Ks.out)).trans Ks.out)
        replace Kt := Lib.hid ((hE.below.block _ (lt_of_block Kt.out)).trans Kt.out)
        replace HAf := Lib.hid (HAf.out.below hE)
        replace HAg := Lib.hid (HAg.out.below hE)
        replace HAs := Lib.hid (HAs.out.below hE)
        replace HAt := Lib.hid (HAt.out.below hE)
        replace HX := Lib.hid (Ext.trans HX.out hE)
        clear hE
        obtain ⟨a0, a1, a2, a3, a4, a5⟩ := box5z Ka.out
        have lta := lt_of_block Ka.out
        obtain ⟨b0, b1, b2, b3, b4, b5⟩ := box5z Kb.out
        have ltb := lt_of_block Kb.out
        obtain ⟨f0, f1, f2, f3, f4, f5⟩ := box5z Kf.out
        have ltf := lt_of_block Kf.out
        obtain ⟨g0, g1, g2, g3, g4, g5⟩ := box5z Kg.out
        have ltg := lt_of_block Kg.out
        obtain ⟨s0, s1, s2, s3, s4, s5⟩ := box5z Ks.out
        have lts := lt_of_block Ks.out
        obtain ⟨t0, t1, t2, t3, t4, t5⟩ := box5z Kt.out
        have ltt := lt_of_block Kt.out
        clear a0 a1 a2 a3 a4 a5 lta
        clear b0 b1 b2 b3 b4 b5 ltb
        clear f0 f1 f2 f3 f4 f5 ltf
        clear g0 g1 g2 g3 g4 g5 ltg
        clear s0 s1 s2 s3 s4 s5 lts
        clear t0 t1 t2 t3 t4 t5 ltt
        go_wp2
        go_ret
        exact ⟨rfl, HX.out⟩

theorem exprChange_walk (e : Ex) (p : Option Addr) (c : Nat) (a : ByteArray) (r : Ex) (p2 : Option Addr) (c2 : Nat) (w : World) (hA : Ex.At w p e) (ha : a.size ≤ 140737488351232) (hR : Ex.At w p2 r) :
    Gives Tryd.prog 6 #[e.val p c, .string a, r.val p2 c2] w (.bool true) := by
  obtain ⟨l, rfl⟩ := sB_of a
  exact exprChange_of e p c l (by rw [sB_size] at ha; omega) r p2 c2 w hA hR

end Go.Proofs.YtgkalcboklhdgaaDoor

namespace Go.Proofs.YtgkalcboklhdgaaDoor.exprChange
open Go.ChangeShapes Go.WideShapes Go.ChangeAt Go.RowKit
open Go.ChangeMaps (open_string shut_string)
set_option linter.unusedVariables false

theorem own : ownKnob Tryd.prog.godebug = none := by kernel_rfl
theorem laidOut : laidOutB Tryd.prog = true := by kernel_rfl
/-- the cells of a datum of plain values -/
def flat : Nat → DataW Unit → List Value
  | _, .lit l => [l.value]
  | n + 1, .agg ps => ps.flatMap (flat n)
  | _, _ => []
/-- a world for the witness: the settled one, the listed tables holding what the text lays -/
def lay (d : DataW Unit) : Obj → Obj
  | .cells _ t frozen => .cells (flat 4 d).toArray t frozen
  | o => o
noncomputable def laidWorld (os : Os) : World :=
  { World.holding Tryd.prog os ⟨#[], #[], []⟩ with heap := ((((World.holding Tryd.prog os ⟨#[], #[], []⟩).heap.modify 1 (lay Rows.laid_math_bits_deBruijn32tab)).modify 2 (lay Rows.laid_math_bits_deBruijn64tab)).modify 0 (lay Rows.laid_internal_strconv_uint64pow10)) }
theorem laid_met (os : Os) : laidMet Tryd.prog Rows.exprChangeRow.laid ((laidWorld os).forCall (fun _ _ => 0) ⟨#[], #[.agg #[.int .i64 0, .int .i64 0, .string ByteArray.empty, .int .i64 0, .slice none 0 0], .string ByteArray.empty, .agg #[.int .i64 0, .int .i64 0, .string ByteArray.empty, .int .i64 0, .slice none 0 0]], []⟩).memory :=
  laidMet_of_run' 8 (by kernel_rfl) (by kernel_rfl)
theorem reads (os : Os) {H : Type} (enc : TypeId × Value → H) : ∃ places, DataW.whole enc Tryd.prog ((laidWorld os).forCall (fun _ _ => 0) ⟨#[], #[.agg #[.int .i64 0, .int .i64 0, .string ByteArray.empty, .int .i64 0, .slice none 0 0], .string ByteArray.empty, .agg #[.int .i64 0, .int .i64 0, .string ByteArray.empty, .int .i64 0, .slice none 0 0]], []⟩).memory Tryd.f6.params.toList Rows.exprChangeSpec.vars false (#[.agg #[.int .i64 0, .int .i64 0, .string ByteArray.empty, .int .i64 0, .slice none 0 0], .string ByteArray.empty, .agg #[.int .i64 0, .int .i64 0, .string ByteArray.empty, .int .i64 0, .slice none 0 0]] : Array Value).toList 8 = some ([.agg [.lit (.int .i64 0), .lit (.int .i64 0), .lit (.string []), .lit (.int .i64 0), .nil], .lit (.string []), .agg [.lit (.int .i64 0), .lit (.int .i64 0), .lit (.string []), .lit (.int .i64 0), .nil]], [], places) :=
  ⟨[], by kernel_rfl⟩
set_option maxRecDepth 100000 in
theorem contract (H : Type) (enc : TypeId × Value → H) (W : World) (base : Nat) (args : Array Value) (ds gs : List (DataW H)) (before : List MemPlace)
    (hval0 : ∀ (j : Nat) t v, Tryd.f6.params[j]? = some t → args[j]? = some v → Value.okWide Tryd.prog W .any base t v)
    (hW : DataW.Whole enc Tryd.prog Tryd.f6.params.toList Rows.exprChangeSpec.vars false W args.toList ds gs before) (hz : (DataW.weightsEach Tryd.prog (Tryd.f6.params.toList ++ (OpenSpec.ofChange Rows.exprChangeSpec).bare.plain.varTypes Tryd.prog) (ds ++ gs)).all (· ≤ reachBytes) = true) :
    Calls Tryd.prog 6 args W fun e W' => ∃ v, e = .returned v ∧ Rows.exprChangeSpec.post enc Tryd.prog Tryd.f6 false true false false W args v W' := by
  have hval := hval0
  have hW' := hW
  obtain ⟨p, q, hA0, hV, rfl, hfz, hnd⟩ := hW
  have hA : DataW.TrodAll enc Tryd.prog W 0 (fun _ => true) true Tryd.f6.params.toList args.toList ds p := hA0
  rw [Tryd.params6] at hA hval
  obtain ⟨v0, vs0, d0, ds0, p0, q0, hargs, rfl, rfl, h0, r0⟩ := trodAll_cons hA
  obtain ⟨v1, vs1, d1, ds1, p1, q1, rfl, rfl, rfl, h1, r1⟩ := trodAll_cons r0
  obtain ⟨v2, vs2, d2, ds2, p2, q2, rfl, rfl, rfl, h2, r2⟩ := trodAll_cons r1
  obtain ⟨rfl, rfl, rfl⟩ := trodAll_nil r2
  obtain rfl : args = #[v0, v1, v2] := by cases args; simp_all
  obtain ⟨rfl, rfl⟩ := trodVars_none hV
  have k0 := h0
  have lt0 : ∀ x ∈ p0, x.block < W.heap.size := by obtain ⟨m, hm⟩ := k0; exact DataW.trod_lt m _ _ _ hm
  obtain ⟨e0, pe0, ce0, rfl, w0⟩ := open_ex (hval 0 24 v0 rfl rfl) h0 (fun n hn => by have := List.all_eq_true.1 hz n (DataW.weights_mem_each (j := 0) rfl rfl n hn); simpa using this)
  obtain ⟨a1, rfl, rfl, rfl, w1⟩ := open_string Tryd.underlying9 (hval 1 9 v1 rfl rfl) h1
  have k2 := h2
  have lt2 : ∀ x ∈ p2, x.block < W.heap.size := by obtain ⟨m, hm⟩ := k2; exact DataW.trod_lt m _ _ _ hm
  obtain ⟨e2, pe2, ce2, rfl, w2⟩ := open_ex (hval 2 24 v2 rfl rfl) h2 (fun n hn => by have := List.all_eq_true.1 hz n (DataW.weights_mem_each (j := 2) rfl rfl n hn); simpa using this)
  have s1 : a1.size ≤ 140737488351232 := by rw [Lib.size_eq]; exact sized_string hz (j := 1) rfl rfl
  clear hA0 hval0 hz
  refine (exprChange_walk e0 pe0 ce0 a1 e2 pe2 ce2 W w0 s1 w2).mono fun W' bel => ?_
  exact ⟨_, rfl, _, _, _, [], _, [], hW', trodAll_mk1 (shut_bool Tryd.underlying4 _), (trodAll_cons_mk (Below.trod laidOut (by kernel_rfl) (of_decide_eq_true (by kernel_rfl)) k0 bel lt0) (trodAll_cons_mk (shut_string Tryd.underlying9 w1) (trodAll_cons_mk (Below.trod laidOut (by kernel_rfl) (of_decide_eq_true (by kernel_rfl)) k2 bel lt2) trodAll_mk0))), rfl, bel.frame _, fun h => by cases h⟩

set_option maxRecDepth 100000 in
theorem lifted (os : Os) (started : os.Started) (H : Type) (enc : TypeId × Value → H) (F : Stop.Interp) :
    ReturnsInHanded {} Tryd.checked os 6 .any ((OpenSpec.ofChange Rows.exprChangeSpec).preRow enc Tryd.prog Tryd.f6 Rows.exprChangeRow.domain false Rows.exprChangeRow.laid) (((OpenSpec.ofChange Rows.exprChangeSpec).at F).post enc Tryd.prog Tryd.f6 false true false false) := by
  obtain ⟨places, hx⟩ := reads os enc
  refine returnsInHanded_of_row (C := Tryd.checked) (s := OpenSpec.ofChange Rows.exprChangeSpec) own started (by kernel_rfl) Tryd.func6
    (witness_row_at (enc := enc) (C := Tryd.checked) false (laidWorld os) #[.agg #[.int .i64 0, .int .i64 0, .string ByteArray.empty, .int .i64 0, .slice none 0 0], .string ByteArray.empty, .agg #[.int .i64 0, .int .i64 0, .string ByteArray.empty, .int .i64 0, .slice none 0 0]] rfl (by kernel_rfl) (by kernel_rfl) (by kernel_rfl)
      (OpenSpec.preRow_of_cond 8 hx (by kernel_rfl) (fun k hk => by cases hk) (by kernel_rfl) (laid_met os))) ?_
  intro W base args ds gs before hval hW _ _ hz _ hsh _
  exact contract H enc W base args ds gs before hval hW hz

theorem said : Rows.ExprChangeSaid :=
  OpenClaim.holds_of_cond 6 Tryd.f6 rfl rfl rfl rfl rfl rfl rfl ⟨rfl, rfl, rfl, rfl, rfl⟩ rfl rfl rfl rfl rfl (by kernel_rfl) Tryd.func6 (by kernel_rfl)
    (of_decide_eq_true (by kernel_rfl)) (by unfold Func.isWrapper; first | (rw [if_pos (by decide +kernel)]; kernel_rfl) | (rw [if_neg (by decide +kernel)]; exact ⟨rfl, rfl⟩))
    (fun os started H enc _ F => by rw [OpenClaim.pre_eq_preRow]; exact lifted os started H enc F)

theorem plain (f : FuncId) (fn : Func) (hf : Tryd.pinned.checked.prog.funcNamed "nursery/nurserylaw09.ExprChange" = some f) (hfn : Tryd.pinned.checked.prog.funcs[f]? = some fn) :
    false = Tryd.pinned.checked.prog.looks [] ∧ ∀ (j : Nat) t, fn.params[j]? = some t → Tryd.pinned.checked.prog.wantsStandIn t = false := by
  obtain rfl : f = 6 := Option.some.inj ((show Tryd.prog.funcNamed "nursery/nurserylaw09.ExprChange" = some 6 by kernel_rfl).symm.trans hf) |>.symm
  obtain rfl : fn = Tryd.f6 := (Option.some.inj (Tryd.func6.symm.trans hfn)).symm
  refine ⟨by kernel_rfl, fun j t ht => ?_⟩
  rw [Tryd.params6] at ht
  rcases j with _ | _ | _ | j
  · obtain rfl : t = 24 := by simpa using ht.symm
    exact (show Tryd.prog.wantsStandIn 24 = false by kernel_rfl)
  · obtain rfl : t = 9 := by simpa using ht.symm
    exact (show Tryd.prog.wantsStandIn 9 = false by kernel_rfl)
  · obtain rfl : t = 24 := by simpa using ht.symm
    exact (show Tryd.prog.wantsStandIn 24 = false by kernel_rfl)
  · simp at ht

/-- the statement -/
theorem proved : Rows.ExprChangeCardSaid :=
  Claim7.holds_tied_plain_at .later [] _ _ _ _ said (fun _ h => by cases h) (by kernel_rfl) (fun _ h => by cases h) exprChange_row_tie rfl ⟨rfl, rfl⟩ (by kernel_rfl) rfl plain (by kernel_rfl)
#print axioms proved
end Go.Proofs.YtgkalcboklhdgaaDoor.exprChange

