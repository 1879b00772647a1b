/- The statement ExprFoldCardSaid: for every input the law returns true, and the arguments read as before; the tables of the library that it lists are tied to the text. The frame round the walk of the law. (With it: ExprFold: the walk.) -/
import Derived.Test.YtgkalcboklhdgaaDoorCards
import Derived.Test.YtgkalcboklhdgaaDoorTie
import Derived.WalkKit
import Derived.ProofKit
import Derived.OpenShut
import Derived.ShutString
import Derived.ChangeOld
import Derived.Below
import Derived.Deep.DeepHandedRow
import Derived.Lib.LaidTab
import Derived.Shelf.Vars
import Derived.Test.YtgkalcboklhdgaaDoorPart8

namespace Go.Proofs.YtgkalcboklhdgaaDoor
open Go.RowKit
set_option linter.unusedVariables false
set_option linter.unusedSimpArgs false
open Ex

/-- the values of the last region -/
def flV (f e : Ex) (qf qg p : Option Addr) (df dg c : Nat) (t0 t1 r0 r1 : Int) : Nat → Value → Prop
  | 0, x => x = .int .i64 0
  | 1, x => x = .bool true
  | 2, x => x = .bool true
  | 3, x => x = .agg #[.int .i64 f.kind, .int .i64 f.op, sV f.name, .int .i64 f.value, .slice qf f.args.length df]
  | 4, x => x = .agg #[.int .i64 f.kind, .int .i64 f.op, sV f.name, .int .i64 f.value, .slice qg f.args.length dg]
  | 5, x => x = .bool true
  | 6, x => x = .bool true
  | 7, x => x = .bool true
  | 8, x => x = .int .i64 t0
  | 9, x => x = .int .i64 t0
  | 10, x => x = .bool true
  | 11, x => x = .bool true
  | 12, x => x = .bool true
  | 13, x => x = .int .i64 t1
  | 14, x => x = .int .i64 t1
  | 15, x => x = .bool true
  | 16, x => x = .bool true
  | 17, x => x = .bool true
  | 18, x => x = .int .i64 r0
  | 19, x => x = .int .i64 r0
  | 20, x => x = .bool true
  | 21, x => x = .bool true
  | 22, x => x = .bool true
  | 23, x => x = .int .i64 r1
  | 24, x => x = .int .i64 r1
  | 25, x => x = .bool true
  | 26, x => x = .bool true
  | 27, x => x = .bool true
  | 28, x => x = .agg #[.int .i64 f.kind, .int .i64 f.op, sV f.name, .int .i64 f.value, .slice qf f.args.length df]
  | 29, x => x = .int .i64 (min f.size 101 : Nat)
  | 30, x => x = .agg #[.int .i64 e.kind, .int .i64 e.op, sV e.name, .int .i64 e.value, .slice p e.args.length c]
  | 31, x => x = .int .i64 (min e.size 101 : Nat)
  | 32, x => x = .bool true
  | 33, x => x = .bool true
  | 34, x => x = .bool true
  | 35, x => x = .bool true
  | 36, x => x = .bool true
  | 37, x => x = .bool true
  | _, _ => True
theorem n38 {α : Type} (fs : List α) (h : fs.length = 38) : ∃ x0 x1 x2 x3 x4 x5 x6 x7 x8 x9 x10 x11 x12 x13 x14 x15 x16 x17 x18 x19 x20 x21 x22 x23 x24 x25 x26 x27 x28 x29 x30 x31 x32 x33 x34 x35 x36 x37, fs = [x0, x1, x2, x3, x4, x5, x6, x7, x8, x9, x10, x11, x12, x13, x14, x15, x16, x17, x18, x19, x20, x21, x22, x23, x24, x25, x26, x27, x28, x29, x30, x31, x32, x33, x34, x35, x36, x37] := by
  match fs, h with
  | x0 :: x1 :: x2 :: x3 :: x4 :: x5 :: x6 :: x7 :: x8 :: x9 :: x10 :: x11 :: x12 :: x13 :: x14 :: x15 :: x16 :: x17 :: x18 :: x19 :: x20 :: x21 :: x22 :: x23 :: x24 :: x25 :: x26 :: x27 :: x28 :: x29 :: x30 :: x31 :: x32 :: x33 :: x34 :: x35 :: x36 :: x37 :: [], _ => exact ⟨x0, x1, x2, x3, x4, x5, x6, x7, x8, x9, x10, x11, x12, x13, x14, x15, x16, x17, x18, x19, x20, x21, x22, x23, x24, x25, x26, x27, x28, x29, x30, x31, x32, x33, x34, x35, x36, x37, rfl⟩

set_option maxRecDepth 100000 in
set_option maxHeartbeats 8000000 in
theorem exprFold_walk (e : Ex) (p : Option Addr) (c : Nat) (bs : List Bn) (pb : Option Addr) (cb : Nat) (w : World) (hA : Ex.At w p e) (hB : BAt w pb bs) :
    Gives Tryd.prog 7 #[e.val p c, .slice pb bs.length cb] w (.bool true) := by
  have C0 := Lib.hid (fun W (h : Ext w W) => show Gives _ _ #[.agg #[.int .i64 e.kind, .int .i64 e.op, sV e.name, .int .i64 e.value, .slice p e.args.length c]] _ _ from Great_any e p c W (hA.below h))
  have CG := Lib.hid (fun W (h : Ext w W) => GreatBindings_any bs pb cb W (hB.below h))
  have CF := Lib.hid (fun W (h : Ext w W) => show Calls _ _ #[.agg #[.int .i64 e.kind, .int .i64 e.op, sV e.name, .int .i64 e.value, .slice p e.args.length c]] _ (fun x w' => ∃ q d, x = .returned (.tuple #[.agg #[.int .i64 (fdR e).1.kind, .int .i64 (fdR e).1.op, sV (fdR e).1.name, .int .i64 (fdR e).1.value, .slice q (fdR e).1.args.length d], .int .i64 (fdR e).2]) ∧ Ex.At w' q (fdR e).1 ∧ Ext W w') from (Fold_of e p c W (hA.below h)).mono (fun x w' ⟨a, q, d, b, c⟩ => ⟨q, d, b, c, a⟩))
  have CC := Lib.hid (fun W (h : Ext w W) => show Gives _ _ #[.agg #[.int .i64 e.kind, .int .i64 e.op, sV e.name, .int .i64 e.value, .slice p e.args.length c]] _ _ from Check_any e p c W (hA.below h))
  have CT := Lib.hid (fun W (h : Ext w W) => show Gives _ _ #[.agg #[.int .i64 e.kind, .int .i64 e.op, sV e.name, .int .i64 e.value, .slice p e.args.length c], _] _ (.tuple #[.int .i64 (tyR bs e).1, .int .i64 (tyR bs e).2]) from Type_any bs pb cb e p c W (hA.below h) (hB.below h))
  have CE := Lib.hid (fun W (h : Ext w W) => show Gives _ _ #[.agg #[.int .i64 e.kind, .int .i64 e.op, sV e.name, .int .i64 e.value, .slice p e.args.length c], _] _ (.tuple #[.int .i64 (evR bs e).1, .int .i64 (evR bs e).2]) from Eval_any bs pb cb e p c W (hA.below h) (hB.below h))
  have CY := Lib.hid (fun W (h : Ext w W) => show Gives _ _ #[.agg #[.int .i64 e.kind, .int .i64 e.op, sV e.name, .int .i64 e.value, .slice p e.args.length c]] _ _ from Size_any e p c W (hA.below h))
  have CA := Lib.hid (fun W => awake_any W)
  have HBB := Lib.hid (fun W (h : Ext w W) => hB.below h)
  have hv : e.val p c = .agg #[.int .i64 e.kind, .int .i64 e.op, sV e.name, .int .i64 e.value, .slice p e.args.length c] := rfl
  rw [hv]
  clear hv hA hB
  have Ka := Lib.hid (alloc_here w (.cells #[.int .i64 e.kind, .int .i64 e.op, sV e.name, .int .i64 e.value, .slice p e.args.length c] tEx))
  have HX := Lib.hid (show Ext w _ from (Below.refl w.heap.size w).alloc (Nat.le_refl _) (.cells #[.int .i64 e.kind, .int .i64 e.op, sV e.name, .int .i64 e.value, .slice p e.args.length c] tEx))
  unfold Gives
  generalize e.great = ge at *
  generalize gbs bs = gb at *
  cases ge with
  | true =>
    go_enter Tryd.func7, Tryd.ntmps7
    obtain ⟨a0, a1, a2, a3, a4, a5⟩ := box5z Ka.out
    have lta := lt_of_block Ka.out
    go_wp2_with fail
    refine (C0.out _ HX.out).mono ?_
    intro w1 hE
    replace hE : Ext _ w1 := hE
    clear a0 a1 a2 a3 a4 a5 lta
    replace Ka := Lib.hid ((hE.below.block _ (lt_of_block Ka.out)).trans Ka.out)
    replace HX := Lib.hid (Ext.trans HX.out hE)
    clear hE
    obtain ⟨a0, a1, a2, a3, a4, a5⟩ := box5z Ka.out
    have lta := lt_of_block Ka.out
    go_wp2_with fail
    refine (CA.out _).mono ?_
    intro w2 hE
    replace hE : Ext _ w2 := hE
    clear a0 a1 a2 a3 a4 a5 lta
    replace Ka := Lib.hid ((hE.below.block _ (lt_of_block Ka.out)).trans Ka.out)
    replace HX := Lib.hid (Ext.trans HX.out hE)
    clear hE
    obtain ⟨a0, a1, a2, a3, a4, a5⟩ := box5z Ka.out
    have lta := lt_of_block Ka.out
    clear a0 a1 a2 a3 a4 a5 lta
    go_wp2
    go_ret
    exact ⟨rfl, HX.out⟩
  | false =>
    cases gb with
    | true =>
      go_enter Tryd.func7, Tryd.ntmps7
      obtain ⟨a0, a1, a2, a3, a4, a5⟩ := box5z Ka.out
      have lta := lt_of_block Ka.out
      go_wp2_with fail
      refine (C0.out _ HX.out).mono ?_
      intro w1 hE
      replace hE : Ext _ w1 := hE
      clear a0 a1 a2 a3 a4 a5 lta
      replace Ka := Lib.hid ((hE.below.block _ (lt_of_block Ka.out)).trans Ka.out)
      replace HX := Lib.hid (Ext.trans HX.out hE)
      clear hE
      obtain ⟨a0, a1, a2, a3, a4, a5⟩ := box5z Ka.out
      have lta := lt_of_block Ka.out
      go_wp2_with fail
      refine (CG.out _ HX.out).mono ?_
      intro w2 hE
      replace hE : Ext _ w2 := hE
      clear a0 a1 a2 a3 a4 a5 lta
      replace Ka := Lib.hid ((hE.below.block _ (lt_of_block Ka.out)).trans Ka.out)
      replace HX := Lib.hid (Ext.trans HX.out hE)
      clear hE
      obtain ⟨a0, a1, a2, a3, a4, a5⟩ := box5z Ka.out
      have lta := lt_of_block Ka.out
      go_wp2_with fail
      refine (CA.out _).mono ?_
      intro w3 hE
      replace hE : Ext _ w3 := hE
      clear a0 a1 a2 a3 a4 a5 lta
      replace Ka := Lib.hid ((hE.below.block _ (lt_of_block Ka.out)).trans Ka.out)
      replace HX := Lib.hid (Ext.trans HX.out hE)
      clear hE
      obtain ⟨a0, a1, a2, a3, a4, a5⟩ := box5z Ka.out
      have lta := lt_of_block Ka.out
      clear a0 a1 a2 a3 a4 a5 lta
      go_wp2
      go_ret
      exact ⟨rfl, HX.out⟩
    | false =>
      by_cases h0 : e.chk ≠ 0
      · have hf : fdR e = (exZ, e.chk) := by unfold fdR; rw [if_pos h0]
        rw [hf] at CF
        clear hf
        have h1 : (e.chk == 0) = false := by simpa using h0
        have h2 : (e.chk != 0) = true := by simpa using h0
        generalize e.chk = ce at *
        clear h0
        go_enter Tryd.func7, Tryd.ntmps7
        obtain ⟨a0, a1, a2, a3, a4, a5⟩ := box5z Ka.out
        have lta := lt_of_block Ka.out
        go_wp2_with fail
        refine (C0.out _ HX.out).mono ?_
        intro w1 hE
        replace hE : Ext _ w1 := hE
        clear a0 a1 a2 a3 a4 a5 lta
        replace Ka := Lib.hid ((hE.below.block _ (lt_of_block Ka.out)).trans Ka.out)
        replace HX := Lib.hid (Ext.trans HX.out hE)
        clear hE
        obtain ⟨a0, a1, a2, a3, a4, a5⟩ := box5z Ka.out
        have lta := lt_of_block Ka.out
        go_wp2_with fail
        refine (CG.out _ HX.out).mono ?_
        intro w2 hE
        replace hE : Ext _ w2 := hE
        clear a0 a1 a2 a3 a4 a5 lta
        replace Ka := Lib.hid ((hE.below.block _ (lt_of_block Ka.out)).trans Ka.out)
        replace HX := Lib.hid (Ext.trans HX.out hE)
        clear hE
        obtain ⟨a0, a1, a2, a3, a4, a5⟩ := box5z Ka.out
        have lta := lt_of_block Ka.out
        go_wp2_with fail
        refine (CF.out _ HX.out).mono ?_
        rintro _ w3 ⟨q3, d3, rfl, hA3, hE⟩
        replace hE : Ext _ w3 := hE
        clear a0 a1 a2 a3 a4 a5 lta
        replace Ka := Lib.hid ((hE.below.block _ (lt_of_block Ka.out)).trans Ka.out)
        replace HX := Lib.hid (Ext.trans HX.out hE)
        clear hA3
        clear hE
        obtain ⟨a0, a1, a2, a3, a4, a5⟩ := box5z Ka.out
        have lta := lt_of_block Ka.out
        have hE : Ext w3 (w3.alloc (.cells #[.int .i64 exZ.kind, .int .i64 exZ.op, sV exZ.name, .int .i64 exZ.value, .slice q3 exZ.args.length d3] tEx)) := (Below.refl _ _).alloc (Nat.le_refl _) _
        have Kf := Lib.hid (alloc_here w3 (.cells #[.int .i64 exZ.kind, .int .i64 exZ.op, sV exZ.name, .int .i64 exZ.value, .slice q3 exZ.args.length d3] tEx))
        replace Ka := Lib.hid ((hE.below.block _ (lt_of_block Ka.out)).trans Ka.out)
        replace HX := Lib.hid (Ext.trans HX.out hE)
        clear hE
        go_wp2_with fail
        refine (CC.out _ HX.out).mono ?_
        intro w4 hE
        replace hE : Ext _ w4 := hE
        clear a0 a1 a2 a3 a4 a5 lta
        replace Ka := Lib.hid ((hE.below.block _ (lt_of_block Ka.out)).trans Ka.out)
        replace Kf := Lib.hid ((hE.below.block _ (lt_of_block Kf.out)).trans Kf.out)
        replace HX := Lib.hid (Ext.trans HX.out hE)
        clear hE
        obtain ⟨a0, a1, a2, a3, a4, a5⟩ := box5z Ka.out
        have lta := lt_of_block Ka.out
        obtain ⟨f0, f1, f2, f3, f4, f5⟩ := box5z Kf.out
        have ltf := lt_of_block Kf.out
        go_wp2_with fail
        refine (CA.out _).mono ?_
        intro w5 hE
        replace hE : Ext _ w5 := hE
        clear a0 a1 a2 a3 a4 a5 lta
        clear f0 f1 f2 f3 f4 f5 ltf
        replace Ka := Lib.hid ((hE.below.block _ (lt_of_block Ka.out)).trans Ka.out)
        replace Kf := Lib.hid ((hE.below.block _ (lt_of_block Kf.out)).trans Kf.out)
        replace HX := Lib.hid (Ext.trans HX.out hE)
        clear hE
        obtain ⟨a0, a1, a2, a3, a4, a5⟩ := box5z Ka.out
        have lta := lt_of_block Ka.out
        obtain ⟨f0, f1, f2, f3, f4, f5⟩ := box5z Kf.out
        have ltf := lt_of_block Kf.out
        clear a0 a1 a2 a3 a4 a5 lta
        clear f0 f1 f2 f3 f4 f5 ltf
        go_wp2
        go_ret
        exact ⟨rfl, HX.out⟩
      · have h0 : e.chk = 0 := Classical.not_not.1 h0
        obtain ⟨f, hf, hcf, hff, htf, hef, hsf, hqf⟩ := fold_all bs e h0
        rw [hf] at CF
        have CF2 := Lib.hid (fun q d W (h : Ex.At W q f) => show Calls _ _ #[.agg #[.int .i64 f.kind, .int .i64 f.op, sV f.name, .int .i64 f.value, .slice q f.args.length d]] _ (fun x w' => ∃ q d, x = .returned (.tuple #[.agg #[.int .i64 f.kind, .int .i64 f.op, sV f.name, .int .i64 f.value, .slice q f.args.length d], .int .i64 0]) ∧ Ex.At w' q f ∧ Ext W w') from (Fold_of f q d W h).mono (fun x w' ⟨a, q, d, b, c⟩ => ⟨q, d, by rw [hff] at b; exact b, by rw [hff] at c; exact c, a⟩))
        have CT2 := Lib.hid (fun q d W (h : Ex.At W q f) (hb : BAt W pb bs) => show Gives _ _ #[.agg #[.int .i64 f.kind, .int .i64 f.op, sV f.name, .int .i64 f.value, .slice q f.args.length d], _] _ (.tuple #[.int .i64 (tyR bs e).1, .int .i64 (tyR bs e).2]) from htf ▸ Type_any bs pb cb f q d W h hb)
        have CE2 := Lib.hid (fun q d W (h : Ex.At W q f) (hb : BAt W pb bs) => show Gives _ _ #[.agg #[.int .i64 f.kind, .int .i64 f.op, sV f.name, .int .i64 f.value, .slice q f.args.length d], _] _ (.tuple #[.int .i64 (evR bs e).1, .int .i64 (evR bs e).2]) from hef ▸ Eval_any bs pb cb f q d W h hb)
        have CQ0 := Lib.hid (fun q d q' d' W (h : Ex.At W q f) (h' : Ex.At W q' f) => show Gives _ _ #[.agg #[.int .i64 f.kind, .int .i64 f.op, sV f.name, .int .i64 f.value, .slice q f.args.length d], .agg #[.int .i64 f.kind, .int .i64 f.op, sV f.name, .int .i64 f.value, .slice q' f.args.length d']] _ (.bool true) from by
          have := EqualX_any f f q q' d d' W h h'
          rw [hcf, hqf] at this
          exact this)
        have CZ0 := Lib.hid (fun q d W (h : Ex.At W q f) => show Gives _ _ #[.agg #[.int .i64 f.kind, .int .i64 f.op, sV f.name, .int .i64 f.value, .slice q f.args.length d]] _ (.int .i64 (min f.size 101 : Nat)) from Size_any f q d W h)
        have hle : ((min f.size 101 : Nat) : Int) ≤ ((min e.size 101 : Nat) : Int) := by omega
        clear hf hcf hff htf hef hsf hqf h0
        generalize (tyR bs e).1 = t0 at *
        generalize (tyR bs e).2 = t1 at *
        generalize (evR bs e).1 = r0 at *
        generalize (evR bs e).2 = r1 at *
        have HLE := Lib.hid hle
        clear hle
        go_enter Tryd.func7, Tryd.ntmps7
        obtain ⟨a0, a1, a2, a3, a4, a5⟩ := box5z Ka.out
        have lta := lt_of_block Ka.out
        go_wp2_with fail
        refine (C0.out _ HX.out).mono ?_
        intro w1 hE
        replace hE : Ext _ w1 := hE
        clear a0 a1 a2 a3 a4 a5 lta
        replace Ka := Lib.hid ((hE.below.block _ (lt_of_block Ka.out)).trans Ka.out)
        replace HX := Lib.hid (Ext.trans HX.out hE)
        clear hE
        obtain ⟨a0, a1, a2, a3, a4, a5⟩ := box5z Ka.out
        have lta := lt_of_block Ka.out
        go_wp2_with fail
        refine (CG.out _ HX.out).mono ?_
        intro w2 hE
        replace hE : Ext _ w2 := hE
        clear a0 a1 a2 a3 a4 a5 lta
        replace Ka := Lib.hid ((hE.below.block _ (lt_of_block Ka.out)).trans Ka.out)
        replace HX := Lib.hid (Ext.trans HX.out hE)
        clear hE
        obtain ⟨a0, a1, a2, a3, a4, a5⟩ := box5z Ka.out
        have lta := lt_of_block Ka.out
        go_wp2_with fail
        refine (CF.out _ HX.out).mono ?_
        rintro _ w3 ⟨qf, df, rfl, hA3, hE⟩
        replace hE : Ext _ w3 := hE
        clear a0 a1 a2 a3 a4 a5 lta
        replace Ka := Lib.hid ((hE.below.block _ (lt_of_block Ka.out)).trans Ka.out)
        replace HX := Lib.hid (Ext.trans HX.out hE)
        have HAf := Lib.hid hA3
        clear hA3
        clear hE
        obtain ⟨a0, a1, a2, a3, a4, a5⟩ := box5z Ka.out
        have lta := lt_of_block Ka.out
        have hE : Ext w3 (w3.alloc (.cells #[.int .i64 f.kind, .int .i64 f.op, sV f.name, .int .i64 f.value, .slice qf f.args.length df] tEx)) := (Below.refl _ _).alloc (Nat.le_refl _) _
        have Kf := Lib.hid (alloc_here w3 (.cells #[.int .i64 f.kind, .int .i64 f.op, sV f.name, .int .i64 f.value, .slice qf f.args.length df] tEx))
        replace Ka := Lib.hid ((hE.below.block _ (lt_of_block Ka.out)).trans Ka.out)
        replace HAf := Lib.hid (HAf.out.below hE)
        replace HX := Lib.hid (Ext.trans HX.out hE)
        clear hE
        go_wp2_with fail
        refine (CF2.out _ _ _ HAf.out).mono ?_
        rintro _ w4 ⟨qg, dg, rfl, hA3, hE⟩
        replace hE : Ext _ w4 := hE
        clear a0 a1 a2 a3 a4 a5 lta
        replace Ka := Lib.hid ((hE.below.block _ (lt_of_block Ka.out)).trans Ka.out)
        replace Kf := Lib.hid ((hE.below.block _ (lt_of_block Kf.out)).trans Kf.out)
        replace HAf := Lib.hid (HAf.out.below hE)
        replace HX := Lib.hid (Ext.trans HX.out hE)
        have HAg := Lib.hid hA3
        clear hA3
        clear hE
        obtain ⟨a0, a1, a2, a3, a4, a5⟩ := box5z Ka.out
        have lta := lt_of_block Ka.out
        obtain ⟨f0, f1, f2, f3, f4, f5⟩ := box5z Kf.out
        have ltf := lt_of_block Kf.out
        have hE : Ext w4 (w4.alloc (.cells #[.int .i64 f.kind, .int .i64 f.op, sV f.name, .int .i64 f.value, .slice qg f.args.length dg] tEx)) := (Below.refl _ _).alloc (Nat.le_refl _) _
        have Kg := Lib.hid (alloc_here w4 (.cells #[.int .i64 f.kind, .int .i64 f.op, sV f.name, .int .i64 f.value, .slice qg f.args.length dg] tEx))
        replace Ka := Lib.hid ((hE.below.block _ (lt_of_block Ka.out)).trans Ka.out)
        replace Kf := Lib.hid ((hE.below.block _ (lt_of_block Kf.out)).trans Kf.out)
        replace HAf := Lib.hid (HAf.out.below hE)
        replace HAg := Lib.hid (HAg.out.below hE)
        replace HX := Lib.hid (Ext.trans HX.out hE)
        clear hE
        go_wp2_with fail
        refine (CT.out _ HX.out).mono ?_
        intro w5 hE
        replace hE : Ext _ w5 := hE
        clear a0 a1 a2 a3 a4 a5 lta
        clear f0 f1 f2 f3 f4 f5 ltf
        replace Ka := Lib.hid ((hE.below.block _ (lt_of_block Ka.out)).trans Ka.out)
        replace Kf := Lib.hid ((hE.below.block _ (lt_of_block Kf.out)).trans Kf.out)
        replace Kg := Lib.hid ((hE.below.block _ (lt_of_block Kg.out)).trans Kg.out)
        replace HAf := Lib.hid (HAf.out.below hE)
        replace HAg := Lib.hid (HAg.out.below hE)
        replace HX := Lib.hid (Ext.trans HX.out hE)
        clear hE
        obtain ⟨a0, a1, a2, a3, a4, a5⟩ := box5z Ka.out
        have lta := lt_of_block Ka.out
        obtain ⟨f0, f1, f2, f3, f4, f5⟩ := box5z Kf.out
        have ltf := lt_of_block Kf.out
        obtain ⟨g0, g1, g2, g3, g4, g5⟩ := box5z Kg.out
        have ltg := lt_of_block Kg.out
        go_wp2_with fail
        refine (CT2.out _ _ _ HAf.out (HBB.out _ HX.out)).mono ?_
        intro w6 hE
        replace hE : Ext _ w6 := hE
        clear a0 a1 a2 a3 a4 a5 lta
        clear f0 f1 f2 f3 f4 f5 ltf
        clear g0 g1 g2 g3 g4 g5 ltg
        replace Ka := Lib.hid ((hE.below.block _ (lt_of_block Ka.out)).trans Ka.out)
        replace Kf := Lib.hid ((hE.below.block _ (lt_of_block Kf.out)).trans Kf.out)
        replace Kg := Lib.hid ((hE.below.block _ (lt_of_block Kg.out)).trans Kg.out)
        replace HAf := Lib.hid (HAf.out.below hE)
        replace HAg := Lib.hid (HAg.out.below hE)
        replace HX := Lib.hid (Ext.trans HX.out hE)
        clear hE
        obtain ⟨a0, a1, a2, a3, a4, a5⟩ := box5z Ka.out
        have lta := lt_of_block Ka.out
        obtain ⟨f0, f1, f2, f3, f4, f5⟩ := box5z Kf.out
        have ltf := lt_of_block Kf.out
        obtain ⟨g0, g1, g2, g3, g4, g5⟩ := box5z Kg.out
        have ltg := lt_of_block Kg.out
        go_wp2_with fail
        refine (CE.out _ HX.out).mono ?_
        intro w7 hE
        replace hE : Ext _ w7 := hE
        clear a0 a1 a2 a3 a4 a5 lta
        clear f0 f1 f2 f3 f4 f5 ltf
        clear g0 g1 g2 g3 g4 g5 ltg
        replace Ka := Lib.hid ((hE.below.block _ (lt_of_block Ka.out)).trans Ka.out)
        replace Kf := Lib.hid ((hE.below.block _ (lt_of_block Kf.out)).trans Kf.out)
        replace Kg := Lib.hid ((hE.below.block _ (lt_of_block Kg.out)).trans Kg.out)
        replace HAf := Lib.hid (HAf.out.below hE)
        replace HAg := Lib.hid (HAg.out.below hE)
        replace HX := Lib.hid (Ext.trans HX.out hE)
        clear hE
        obtain ⟨a0, a1, a2, a3, a4, a5⟩ := box5z Ka.out
        have lta := lt_of_block Ka.out
        obtain ⟨f0, f1, f2, f3, f4, f5⟩ := box5z Kf.out
        have ltf := lt_of_block Kf.out
        obtain ⟨g0, g1, g2, g3, g4, g5⟩ := box5z Kg.out
        have ltg := lt_of_block Kg.out
        go_wp2_with fail
        refine (CE2.out _ _ _ HAf.out (HBB.out _ HX.out)).mono ?_
        intro w8 hE
        replace hE : Ext _ w8 := hE
        clear a0 a1 a2 a3 a4 a5 lta
        clear f0 f1 f2 f3 f4 f5 ltf
        clear g0 g1 g2 g3 g4 g5 ltg
        replace Ka := Lib.hid ((hE.below.block _ (lt_of_block Ka.out)).trans Ka.out)
        replace Kf := Lib.hid ((hE.below.block _ (lt_of_block Kf.out)).trans Kf.out)
        replace Kg := Lib.hid ((hE.below.block _ (lt_of_block Kg.out)).trans Kg.out)
        replace HAf := Lib.hid (HAf.out.below hE)
        replace HAg := Lib.hid (HAg.out.below hE)
        replace HX := Lib.hid (Ext.trans HX.out hE)
        clear hE
        obtain ⟨a0, a1, a2, a3, a4, a5⟩ := box5z Ka.out
        have lta := lt_of_block Ka.out
        obtain ⟨f0, f1, f2, f3, f4, f5⟩ := box5z Kf.out
        have ltf := lt_of_block Kf.out
        obtain ⟨g0, g1, g2, g3, g4, g5⟩ := box5z Kg.out
        have ltg := lt_of_block Kg.out
        go_wp2_with fail
        have ka := Ka.out
        have kf := Kf.out
        have kg := Kg.out
        have CQ := Lib.hid (fun W (h : Ext _ W) => CQ0.out qf df qg dg W (HAf.out.below h) (HAg.out.below h))
        have CZ := Lib.hid (fun W (h : Ext _ W) => CZ0.out qf df W (HAf.out.below h))
        have CYY := Lib.hid (fun W (h : Ext _ W) => CY.out W (Ext.trans HX.out h))
        clear CY
        have CY := CYY
        clear CYY
        generalize w.heap.size = ba at *
        generalize w3.heap.size = bf at *
        generalize w4.heap.size = bg at *
        clear a0 a1 a2 a3 a4 a5 lta
        clear f0 f1 f2 f3 f4 f5 ltf
        clear g0 g1 g2 g3 g4 g5 ltg
        have hle := HLE.out
        refine wp_region_g (by kernel_rfl) Ext (fun W => show Below W.heap.size W { W with drawn := W.drawn + 1 } from ⟨rfl, rfl, rfl, Nat.le_refl _, fun _ _ => rfl⟩) Ext.trans (fun i s W => flV f e qf qg p df dg c t0 t1 r0 r1 i (s i)) (fun j => [j]) (fun j s s' W W' h hs _ => by show flV f e qf qg p df dg c t0 t1 r0 r1 j (s' j); rw [hs j (by simp)]; exact h) (by kernel_rfl) (by kernel_rfl) (by kernel_rfl) 104 rfl (by kernel_rfl) ?_ ?_
        · intro i op ho a' W hA
          obtain ⟨x0, x1, x2, x3, x4, _⟩ := box5z ((hA.rel.below.block _ (lt_of_block ka)).trans ka)
          obtain ⟨y0, y1, y2, y3, y4, _⟩ := box5z ((hA.rel.below.block _ (lt_of_block kf)).trans kf)
          obtain ⟨z0, z1, z2, z3, z4, _⟩ := box5z ((hA.rel.below.block _ (lt_of_block kg)).trans kg)
          match i, ho with
          | 0, ho =>
            obtain rfl := Option.some.inj ho
            have e1 : a'.eval (.tmp 8) = .int .i64 0 := hA.keep 8 (by kernel_rfl)
            refine GoesG.value (.int .i64 0) rfl ?_ (Below.refl _ _) (fun s h1 h2 => h1 rfl)
            simp only [execOp, e1]
            simp [go_sem, x0, x1, x2, x3, x4, y0, y1, y2, y3, y4, z0, z1, z2, z3, z4]
          | 1, ho =>
            obtain rfl := Option.some.inj ho
            have e1 : a'.eval (.tmp 67) = .int .i64 0 := (sv_dst (l := _) rfl).symm.trans (hA.new 0 (by decide) (by kernel_rfl))
            refine GoesG.value (.bool true) rfl ?_ (Below.refl _ _) (fun s h1 h2 => h1 rfl)
            simp only [execOp, e1]
            simp [go_sem, x0, x1, x2, x3, x4, y0, y1, y2, y3, y4, z0, z1, z2, z3, z4]
          | 2, ho =>
            obtain rfl := Option.some.inj ho
            have e1 : a'.eval (.tmp 68) = .bool true := (sv_dst (l := _) rfl).symm.trans (hA.new 1 (by decide) (by kernel_rfl))
            refine GoesG.value (.bool true) rfl ?_ (Below.refl _ _) (fun s h1 h2 => h1 rfl)
            simp only [execOp, e1]
            simp [go_sem, x0, x1, x2, x3, x4, y0, y1, y2, y3, y4, z0, z1, z2, z3, z4]
          | 3, ho =>
            obtain rfl := Option.some.inj ho
            have hg := hA.new 2 (by decide) (by kernel_rfl)
            have e1 : a'.eval (.tmp 5) = .pointer (some ⟨bf, 0, none⟩) := hA.keep 5 (by kernel_rfl)
            refine GoesG.valueW (.agg #[.int .i64 f.kind, .int .i64 f.op, sV f.name, .int .i64 f.value, .slice qf f.args.length df]) 2 true true rfl hg rfl ?_ (Below.refl _ _) (fun s h1 h2 => h1 rfl)
            simp only [execOp, e1]
            simp [go_sem, x0, x1, x2, x3, x4, y0, y1, y2, y3, y4, z0, z1, z2, z3, z4]
          | 4, ho =>
            obtain rfl := Option.some.inj ho
            have hg := hA.new 2 (by decide) (by kernel_rfl)
            have e1 : a'.eval (.tmp 7) = .pointer (some ⟨bg, 0, none⟩) := hA.keep 7 (by kernel_rfl)
            refine GoesG.valueW (.agg #[.int .i64 f.kind, .int .i64 f.op, sV f.name, .int .i64 f.value, .slice qg f.args.length dg]) 2 true true rfl hg rfl ?_ (Below.refl _ _) (fun s h1 h2 => h1 rfl)
            simp only [execOp, e1]
            simp [go_sem, x0, x1, x2, x3, x4, y0, y1, y2, y3, y4, z0, z1, z2, z3, z4]
          | 5, ho =>
            obtain rfl := Option.some.inj ho
            have hg := hA.new 2 (by decide) (by kernel_rfl)
            have e1 : a'.eval (.tmp 70) = .agg #[.int .i64 f.kind, .int .i64 f.op, sV f.name, .int .i64 f.value, .slice qf f.args.length df] := (sv_dst (l := _) rfl).symm.trans (hA.new 3 (by decide) (by kernel_rfl))
            have e2 : a'.eval (.tmp 71) = .agg #[.int .i64 f.kind, .int .i64 f.op, sV f.name, .int .i64 f.value, .slice qg f.args.length dg] := (sv_dst (l := _) rfl).symm.trans (hA.new 4 (by decide) (by kernel_rfl))
            refine GoesG.callW 29 #[.agg #[.int .i64 f.kind, .int .i64 f.op, sV f.name, .int .i64 f.value, .slice qf f.args.length df], .agg #[.int .i64 f.kind, .int .i64 f.op, sV f.name, .int .i64 f.value, .slice qg f.args.length dg]] 2 true true rfl hg rfl ?_ ((CQ.out _ hA.rel).mono ?_)
            · simp [execOp, resolve, invoke, Deferred.ofValue, e1, e2]
              rfl
            · intro W1 hE
              exact ⟨_, rfl, hE, fun s h1 h2 => h1 rfl⟩
          | 6, ho =>
            obtain rfl := Option.some.inj ho
            have e1 : a'.eval (.tmp 69) = .bool true := (sv_dst (l := _) rfl).symm.trans (hA.new 2 (by decide) (by kernel_rfl))
            have e2 : a'.eval (.tmp 72) = .bool true := (sv_dst (l := _) rfl).symm.trans (hA.new 5 (by decide) (by kernel_rfl))
            refine GoesG.value (.bool true) rfl ?_ (Below.refl _ _) (fun s h1 h2 => h1 rfl)
            simp only [execOp, e1, e2]
            simp [go_sem, x0, x1, x2, x3, x4, y0, y1, y2, y3, y4, z0, z1, z2, z3, z4]
          | 7, ho =>
            obtain rfl := Option.some.inj ho
            have e1 : a'.eval (.tmp 73) = .bool true := (sv_dst (l := _) rfl).symm.trans (hA.new 6 (by decide) (by kernel_rfl))
            refine GoesG.value (.bool true) rfl ?_ (Below.refl _ _) (fun s h1 h2 => h1 rfl)
            simp only [execOp, e1]
            simp [go_sem, x0, x1, x2, x3, x4, y0, y1, y2, y3, y4, z0, z1, z2, z3, z4]
          | 8, ho =>
            obtain rfl := Option.some.inj ho
            have hg := hA.new 7 (by decide) (by kernel_rfl)
            have e1 : a'.eval (.tmp 9) = .int .i64 t0 := hA.keep 9 (by kernel_rfl)
            refine GoesG.valueW (.int .i64 t0) 7 true true rfl hg rfl ?_ (Below.refl _ _) (fun s h1 h2 => h1 rfl)
            simp only [execOp, e1]
            simp [go_sem, x0, x1, x2, x3, x4, y0, y1, y2, y3, y4, z0, z1, z2, z3, z4]
          | 9, ho =>
            obtain rfl := Option.some.inj ho
            have hg := hA.new 7 (by decide) (by kernel_rfl)
            have e1 : a'.eval (.tmp 11) = .int .i64 t0 := hA.keep 11 (by kernel_rfl)
            refine GoesG.valueW (.int .i64 t0) 7 true true rfl hg rfl ?_ (Below.refl _ _) (fun s h1 h2 => h1 rfl)
            simp only [execOp, e1]
            simp [go_sem, x0, x1, x2, x3, x4, y0, y1, y2, y3, y4, z0, z1, z2, z3, z4]
          | 10, ho =>
            obtain rfl := Option.some.inj ho
            have hg := hA.new 7 (by decide) (by kernel_rfl)
            have e1 : a'.eval (.tmp 75) = .int .i64 t0 := (sv_dst (l := _) rfl).symm.trans (hA.new 8 (by decide) (by kernel_rfl))
            have e2 : a'.eval (.tmp 76) = .int .i64 t0 := (sv_dst (l := _) rfl).symm.trans (hA.new 9 (by decide) (by kernel_rfl))
            refine GoesG.valueW (.bool true) 7 true true rfl hg rfl ?_ (Below.refl _ _) (fun s h1 h2 => h1 rfl)
            simp only [execOp, e1, e2]
            simp [go_sem, x0, x1, x2, x3, x4, y0, y1, y2, y3, y4, z0, z1, z2, z3, z4]
          | 11, ho =>
            obtain rfl := Option.some.inj ho
            have e1 : a'.eval (.tmp 74) = .bool true := (sv_dst (l := _) rfl).symm.trans (hA.new 7 (by decide) (by kernel_rfl))
            have e2 : a'.eval (.tmp 77) = .bool true := (sv_dst (l := _) rfl).symm.trans (hA.new 10 (by decide) (by kernel_rfl))
            refine GoesG.value (.bool true) rfl ?_ (Below.refl _ _) (fun s h1 h2 => h1 rfl)
            simp only [execOp, e1, e2]
            simp [go_sem, x0, x1, x2, x3, x4, y0, y1, y2, y3, y4, z0, z1, z2, z3, z4]
          | 12, ho =>
            obtain rfl := Option.some.inj ho
            have e1 : a'.eval (.tmp 78) = .bool true := (sv_dst (l := _) rfl).symm.trans (hA.new 11 (by decide) (by kernel_rfl))
            refine GoesG.value (.bool true) rfl ?_ (Below.refl _ _) (fun s h1 h2 => h1 rfl)
            simp only [execOp, e1]
            simp [go_sem, x0, x1, x2, x3, x4, y0, y1, y2, y3, y4, z0, z1, z2, z3, z4]
          | 13, ho =>
            obtain rfl := Option.some.inj ho
            have hg := hA.new 12 (by decide) (by kernel_rfl)
            have e1 : a'.eval (.tmp 10) = .int .i64 t1 := hA.keep 10 (by kernel_rfl)
            refine GoesG.valueW (.int .i64 t1) 12 true true rfl hg rfl ?_ (Below.refl _ _) (fun s h1 h2 => h1 rfl)
            simp only [execOp, e1]
            simp [go_sem, x0, x1, x2, x3, x4, y0, y1, y2, y3, y4, z0, z1, z2, z3, z4]
          | 14, ho =>
            obtain rfl := Option.some.inj ho
            have hg := hA.new 12 (by decide) (by kernel_rfl)
            have e1 : a'.eval (.tmp 12) = .int .i64 t1 := hA.keep 12 (by kernel_rfl)
            refine GoesG.valueW (.int .i64 t1) 12 true true rfl hg rfl ?_ (Below.refl _ _) (fun s h1 h2 => h1 rfl)
            simp only [execOp, e1]
            simp [go_sem, x0, x1, x2, x3, x4, y0, y1, y2, y3, y4, z0, z1, z2, z3, z4]
          | 15, ho =>
            obtain rfl := Option.some.inj ho
            have hg := hA.new 12 (by decide) (by kernel_rfl)
            have e1 : a'.eval (.tmp 80) = .int .i64 t1 := (sv_dst (l := _) rfl).symm.trans (hA.new 13 (by decide) (by kernel_rfl))
            have e2 : a'.eval (.tmp 81) = .int .i64 t1 := (sv_dst (l := _) rfl).symm.trans (hA.new 14 (by decide) (by kernel_rfl))
            refine GoesG.valueW (.bool true) 12 true true rfl hg rfl ?_ (Below.refl _ _) (fun s h1 h2 => h1 rfl)
            simp only [execOp, e1, e2]
            simp [go_sem, x0, x1, x2, x3, x4, y0, y1, y2, y3, y4, z0, z1, z2, z3, z4]
          | 16, ho =>
            obtain rfl := Option.some.inj ho
            have e1 : a'.eval (.tmp 79) = .bool true := (sv_dst (l := _) rfl).symm.trans (hA.new 12 (by decide) (by kernel_rfl))
            have e2 : a'.eval (.tmp 82) = .bool true := (sv_dst (l := _) rfl).symm.trans (hA.new 15 (by decide) (by kernel_rfl))
            refine GoesG.value (.bool true) rfl ?_ (Below.refl _ _) (fun s h1 h2 => h1 rfl)
            simp only [execOp, e1, e2]
            simp [go_sem, x0, x1, x2, x3, x4, y0, y1, y2, y3, y4, z0, z1, z2, z3, z4]
          | 17, ho =>
            obtain rfl := Option.some.inj ho
            have e1 : a'.eval (.tmp 83) = .bool true := (sv_dst (l := _) rfl).symm.trans (hA.new 16 (by decide) (by kernel_rfl))
            refine GoesG.value (.bool true) rfl ?_ (Below.refl _ _) (fun s h1 h2 => h1 rfl)
            simp only [execOp, e1]
            simp [go_sem, x0, x1, x2, x3, x4, y0, y1, y2, y3, y4, z0, z1, z2, z3, z4]
          | 18, ho =>
            obtain rfl := Option.some.inj ho
            have hg := hA.new 17 (by decide) (by kernel_rfl)
            have e1 : a'.eval (.tmp 13) = .int .i64 r0 := hA.keep 13 (by kernel_rfl)
            refine GoesG.valueW (.int .i64 r0) 17 true true rfl hg rfl ?_ (Below.refl _ _) (fun s h1 h2 => h1 rfl)
            simp only [execOp, e1]
            simp [go_sem, x0, x1, x2, x3, x4, y0, y1, y2, y3, y4, z0, z1, z2, z3, z4]
          | 19, ho =>
            obtain rfl := Option.some.inj ho
            have hg := hA.new 17 (by decide) (by kernel_rfl)
            have e1 : a'.eval (.tmp 15) = .int .i64 r0 := hA.keep 15 (by kernel_rfl)
            refine GoesG.valueW (.int .i64 r0) 17 true true rfl hg rfl ?_ (Below.refl _ _) (fun s h1 h2 => h1 rfl)
            simp only [execOp, e1]
            simp [go_sem, x0, x1, x2, x3, x4, y0, y1, y2, y3, y4, z0, z1, z2, z3, z4]
          | 20, ho =>
            obtain rfl := Option.some.inj ho
            have hg := hA.new 17 (by decide) (by kernel_rfl)
            have e1 : a'.eval (.tmp 85) = .int .i64 r0 := (sv_dst (l := _) rfl).symm.trans (hA.new 18 (by decide) (by kernel_rfl))
            have e2 : a'.eval (.tmp 86) = .int .i64 r0 := (sv_dst (l := _) rfl).symm.trans (hA.new 19 (by decide) (by kernel_rfl))
            refine GoesG.valueW (.bool true) 17 true true rfl hg rfl ?_ (Below.refl _ _) (fun s h1 h2 => h1 rfl)
            simp only [execOp, e1, e2]
            simp [go_sem, x0, x1, x2, x3, x4, y0, y1, y2, y3, y4, z0, z1, z2, z3, z4]
          | 21, ho =>
            obtain rfl := Option.some.inj ho
            have e1 : a'.eval (.tmp 84) = .bool true := (sv_dst (l := _) rfl).symm.trans (hA.new 17 (by decide) (by kernel_rfl))
            have e2 : a'.eval (.tmp 87) = .bool true := (sv_dst (l := _) rfl).symm.trans (hA.new 20 (by decide) (by kernel_rfl))
            refine GoesG.value (.bool true) rfl ?_ (Below.refl _ _) (fun s h1 h2 => h1 rfl)
            simp only [execOp, e1, e2]
            simp [go_sem, x0, x1, x2, x3, x4, y0, y1, y2, y3, y4, z0, z1, z2, z3, z4]
          | 22, ho =>
            obtain rfl := Option.some.inj ho
            have e1 : a'.eval (.tmp 88) = .bool true := (sv_dst (l := _) rfl).symm.trans (hA.new 21 (by decide) (by kernel_rfl))
            refine GoesG.value (.bool true) rfl ?_ (Below.refl _ _) (fun s h1 h2 => h1 rfl)
            simp only [execOp, e1]
            simp [go_sem, x0, x1, x2, x3, x4, y0, y1, y2, y3, y4, z0, z1, z2, z3, z4]
          | 23, ho =>
            obtain rfl := Option.some.inj ho
            have hg := hA.new 22 (by decide) (by kernel_rfl)
            have e1 : a'.eval (.tmp 14) = .int .i64 r1 := hA.keep 14 (by kernel_rfl)
            refine GoesG.valueW (.int .i64 r1) 22 true true rfl hg rfl ?_ (Below.refl _ _) (fun s h1 h2 => h1 rfl)
            simp only [execOp, e1]
            simp [go_sem, x0, x1, x2, x3, x4, y0, y1, y2, y3, y4, z0, z1, z2, z3, z4]
          | 24, ho =>
            obtain rfl := Option.some.inj ho
            have hg := hA.new 22 (by decide) (by kernel_rfl)
            have e1 : a'.eval (.tmp 16) = .int .i64 r1 := hA.keep 16 (by kernel_rfl)
            refine GoesG.valueW (.int .i64 r1) 22 true true rfl hg rfl ?_ (Below.refl _ _) (fun s h1 h2 => h1 rfl)
            simp only [execOp, e1]
            simp [go_sem, x0, x1, x2, x3, x4, y0, y1, y2, y3, y4, z0, z1, z2, z3, z4]
          | 25, ho =>
            obtain rfl := Option.some.inj ho
            have hg := hA.new 22 (by decide) (by kernel_rfl)
            have e1 : a'.eval (.tmp 90) = .int .i64 r1 := (sv_dst (l := _) rfl).symm.trans (hA.new 23 (by decide) (by kernel_rfl))
            have e2 : a'.eval (.tmp 91) = .int .i64 r1 := (sv_dst (l := _) rfl).symm.trans (hA.new 24 (by decide) (by kernel_rfl))
            refine GoesG.valueW (.bool true) 22 true true rfl hg rfl ?_ (Below.refl _ _) (fun s h1 h2 => h1 rfl)
            simp only [execOp, e1, e2]
            simp [go_sem, x0, x1, x2, x3, x4, y0, y1, y2, y3, y4, z0, z1, z2, z3, z4]
          | 26, ho =>
            obtain rfl := Option.some.inj ho
            have e1 : a'.eval (.tmp 89) = .bool true := (sv_dst (l := _) rfl).symm.trans (hA.new 22 (by decide) (by kernel_rfl))
            have e2 : a'.eval (.tmp 92) = .bool true := (sv_dst (l := _) rfl).symm.trans (hA.new 25 (by decide) (by kernel_rfl))
            refine GoesG.value (.bool true) rfl ?_ (Below.refl _ _) (fun s h1 h2 => h1 rfl)
            simp only [execOp, e1, e2]
            simp [go_sem, x0, x1, x2, x3, x4, y0, y1, y2, y3, y4, z0, z1, z2, z3, z4]
          | 27, ho =>
            obtain rfl := Option.some.inj ho
            have e1 : a'.eval (.tmp 93) = .bool true := (sv_dst (l := _) rfl).symm.trans (hA.new 26 (by decide) (by kernel_rfl))
            refine GoesG.value (.bool true) rfl ?_ (Below.refl _ _) (fun s h1 h2 => h1 rfl)
            simp only [execOp, e1]
            simp [go_sem, x0, x1, x2, x3, x4, y0, y1, y2, y3, y4, z0, z1, z2, z3, z4]
          | 28, ho =>
            obtain rfl := Option.some.inj ho
            have hg := hA.new 27 (by decide) (by kernel_rfl)
            have e1 : a'.eval (.tmp 5) = .pointer (some ⟨bf, 0, none⟩) := hA.keep 5 (by kernel_rfl)
            refine GoesG.valueW (.agg #[.int .i64 f.kind, .int .i64 f.op, sV f.name, .int .i64 f.value, .slice qf f.args.length df]) 27 true true rfl hg rfl ?_ (Below.refl _ _) (fun s h1 h2 => h1 rfl)
            simp only [execOp, e1]
            simp [go_sem, x0, x1, x2, x3, x4, y0, y1, y2, y3, y4, z0, z1, z2, z3, z4]
          | 29, ho =>
            obtain rfl := Option.some.inj ho
            have hg := hA.new 27 (by decide) (by kernel_rfl)
            have e1 : a'.eval (.tmp 95) = .agg #[.int .i64 f.kind, .int .i64 f.op, sV f.name, .int .i64 f.value, .slice qf f.args.length df] := (sv_dst (l := _) rfl).symm.trans (hA.new 28 (by decide) (by kernel_rfl))
            refine GoesG.callW 30 #[.agg #[.int .i64 f.kind, .int .i64 f.op, sV f.name, .int .i64 f.value, .slice qf f.args.length df]] 27 true true rfl hg rfl ?_ ((CZ.out _ hA.rel).mono ?_)
            · simp [execOp, resolve, invoke, Deferred.ofValue, e1]
              rfl
            · intro W1 hE
              exact ⟨_, rfl, hE, fun s h1 h2 => h1 rfl⟩
          | 30, ho =>
            obtain rfl := Option.some.inj ho
            have hg := hA.new 27 (by decide) (by kernel_rfl)
            have e1 : a'.eval (.tmp 2) = .pointer (some ⟨ba, 0, none⟩) := hA.keep 2 (by kernel_rfl)
            refine GoesG.valueW (.agg #[.int .i64 e.kind, .int .i64 e.op, sV e.name, .int .i64 e.value, .slice p e.args.length c]) 27 true true rfl hg rfl ?_ (Below.refl _ _) (fun s h1 h2 => h1 rfl)
            simp only [execOp, e1]
            simp [go_sem, x0, x1, x2, x3, x4, y0, y1, y2, y3, y4, z0, z1, z2, z3, z4]
          | 31, ho =>
            obtain rfl := Option.some.inj ho
            have hg := hA.new 27 (by decide) (by kernel_rfl)
            have e1 : a'.eval (.tmp 97) = .agg #[.int .i64 e.kind, .int .i64 e.op, sV e.name, .int .i64 e.value, .slice p e.args.length c] := (sv_dst (l := _) rfl).symm.trans (hA.new 30 (by decide) (by kernel_rfl))
            refine GoesG.callW 30 #[.agg #[.int .i64 e.kind, .int .i64 e.op, sV e.name, .int .i64 e.value, .slice p e.args.length c]] 27 true true rfl hg rfl ?_ ((CY.out _ hA.rel).mono ?_)
            · simp [execOp, resolve, invoke, Deferred.ofValue, e1]
              rfl
            · intro W1 hE
              exact ⟨_, rfl, hE, fun s h1 h2 => h1 rfl⟩
          | 32, ho =>
            obtain rfl := Option.some.inj ho
            have hg := hA.new 27 (by decide) (by kernel_rfl)
            have e1 : a'.eval (.tmp 96) = .int .i64 (min f.size 101 : Nat) := (sv_dst (l := _) rfl).symm.trans (hA.new 29 (by decide) (by kernel_rfl))
            have e2 : a'.eval (.tmp 98) = .int .i64 (min e.size 101 : Nat) := (sv_dst (l := _) rfl).symm.trans (hA.new 31 (by decide) (by kernel_rfl))
            refine GoesG.valueW (.bool true) 27 true true rfl hg rfl ?_ (Below.refl _ _) (fun s h1 h2 => h1 rfl)
            simp only [execOp, e1, e2]
            simp [go_sem, hle]
          | 33, ho =>
            obtain rfl := Option.some.inj ho
            have e1 : a'.eval (.tmp 94) = .bool true := (sv_dst (l := _) rfl).symm.trans (hA.new 27 (by decide) (by kernel_rfl))
            have e2 : a'.eval (.tmp 99) = .bool true := (sv_dst (l := _) rfl).symm.trans (hA.new 32 (by decide) (by kernel_rfl))
            refine GoesG.value (.bool true) rfl ?_ (Below.refl _ _) (fun s h1 h2 => h1 rfl)
            simp only [execOp, e1, e2]
            simp [go_sem, x0, x1, x2, x3, x4, y0, y1, y2, y3, y4, z0, z1, z2, z3, z4]
          | 34, ho =>
            obtain rfl := Option.some.inj ho
            have e1 : a'.eval (.tmp 100) = .bool true := (sv_dst (l := _) rfl).symm.trans (hA.new 33 (by decide) (by kernel_rfl))
            refine GoesG.value (.bool true) rfl ?_ (Below.refl _ _) (fun s h1 h2 => h1 rfl)
            simp only [execOp, e1]
            simp [go_sem, x0, x1, x2, x3, x4, y0, y1, y2, y3, y4, z0, z1, z2, z3, z4]
          | 35, ho =>
            obtain rfl := Option.some.inj ho
            have hg := hA.new 34 (by decide) (by kernel_rfl)
            refine GoesG.callW 10 #[] 34 true true rfl hg rfl ?_ ((CA.out _).mono ?_)
            · simp [execOp, resolve, invoke, Deferred.ofValue]
              rfl
            · intro W1 hE
              exact ⟨_, rfl, hE, fun s h1 h2 => h1 rfl⟩
          | 36, ho =>
            obtain rfl := Option.some.inj ho
            have e1 : a'.eval (.tmp 101) = .bool true := (sv_dst (l := _) rfl).symm.trans (hA.new 34 (by decide) (by kernel_rfl))
            have e2 : a'.eval (.tmp 102) = .bool true := (sv_dst (l := _) rfl).symm.trans (hA.new 35 (by decide) (by kernel_rfl))
            refine GoesG.value (.bool true) rfl ?_ (Below.refl _ _) (fun s h1 h2 => h1 rfl)
            simp only [execOp, e1, e2]
            simp [go_sem, x0, x1, x2, x3, x4, y0, y1, y2, y3, y4, z0, z1, z2, z3, z4]
          | 37, ho =>
            obtain rfl := Option.some.inj ho
            have e1 : a'.eval (.tmp 103) = .bool true := (sv_dst (l := _) rfl).symm.trans (hA.new 36 (by decide) (by kernel_rfl))
            refine GoesG.value (.bool true) rfl ?_ (Below.refl _ _) (fun s h1 h2 => h1 rfl)
            simp only [execOp, e1]
            simp [go_sem, x0, x1, x2, x3, x4, y0, y1, y2, y3, y4, z0, z1, z2, z3, z4]
          | i + 38, ho => cases ho
        · intro vs W hvs hG hΦ
          obtain ⟨u0, u1, u2, u3, u4, u5, u6, u7, u8, u9, u10, u11, u12, u13, u14, u15, u16, u17, u18, u19, u20, u21, u22, u23, u24, u25, u26, u27, u28, u29, u30, u31, u32, u33, u34, u35, u36, u37, rfl⟩ := n38 vs hvs
          have hu : u37 = .bool true := hΦ 37 (by decide)
          subst hu
          have HG := Lib.hid hG
          clear hΦ hG hvs
          simp only [putAll, Act.put, List.setIfInBounds_toArray, List.set_cons_succ, List.set_cons_zero]
          go_wp2
          go_ret
          exact ⟨rfl, Ext.trans HX.out HG.out⟩

end Go.Proofs.YtgkalcboklhdgaaDoor

namespace Go.Proofs.YtgkalcboklhdgaaDoor.exprFold
open Go.ChangeShapes Go.WideShapes Go.ChangeAt Go.RowKit
open Go.ChangeMaps (open_string shut_string)
set_option linter.unusedVariables false

theorem own : ownKnob Tryd.prog.godebug = none := by kernel_rfl
theorem laidOut : laidOutB Tryd.prog = true := by kernel_rfl
/-- the cells of a datum of plain values -/
def flat : Nat → DataW Unit → List Value
  | _, .lit l => [l.value]
  | n + 1, .agg ps => ps.flatMap (flat n)
  | _, _ => []
/-- a world for the witness: the settled one, the listed tables holding what the text lays -/
def lay (d : DataW Unit) : Obj → Obj
  | .cells _ t frozen => .cells (flat 4 d).toArray t frozen
  | o => o
noncomputable def laidWorld (os : Os) : World :=
  { World.holding Tryd.prog os ⟨#[], #[], []⟩ with heap := ((((World.holding Tryd.prog os ⟨#[], #[], []⟩).heap.modify 1 (lay Rows.laid_math_bits_deBruijn32tab)).modify 2 (lay Rows.laid_math_bits_deBruijn64tab)).modify 0 (lay Rows.laid_internal_strconv_uint64pow10)) }
theorem laid_met (os : Os) : laidMet Tryd.prog Rows.exprFoldRow.laid ((laidWorld os).forCall (fun _ _ => 0) ⟨#[], #[.agg #[.int .i64 0, .int .i64 0, .string ByteArray.empty, .int .i64 0, .slice none 0 0], .slice none 0 0], []⟩).memory :=
  laidMet_of_run' 8 (by kernel_rfl) (by kernel_rfl)
theorem reads (os : Os) {H : Type} (enc : TypeId × Value → H) : ∃ places, DataW.whole enc Tryd.prog ((laidWorld os).forCall (fun _ _ => 0) ⟨#[], #[.agg #[.int .i64 0, .int .i64 0, .string ByteArray.empty, .int .i64 0, .slice none 0 0], .slice none 0 0], []⟩).memory Tryd.f7.params.toList Rows.exprFoldSpec.vars false (#[.agg #[.int .i64 0, .int .i64 0, .string ByteArray.empty, .int .i64 0, .slice none 0 0], .slice none 0 0] : Array Value).toList 8 = some ([.agg [.lit (.int .i64 0), .lit (.int .i64 0), .lit (.string []), .lit (.int .i64 0), .nil], .nil], [], places) :=
  ⟨[], by kernel_rfl⟩
set_option maxRecDepth 100000 in
theorem contract (H : Type) (enc : TypeId × Value → H) (W : World) (base : Nat) (args : Array Value) (ds gs : List (DataW H)) (before : List MemPlace)
    (hval0 : ∀ (j : Nat) t v, Tryd.f7.params[j]? = some t → args[j]? = some v → Value.okWide Tryd.prog W .any base t v)
    (hW : DataW.Whole enc Tryd.prog Tryd.f7.params.toList Rows.exprFoldSpec.vars false W args.toList ds gs before) (hz : (DataW.weightsEach Tryd.prog (Tryd.f7.params.toList ++ (OpenSpec.ofChange Rows.exprFoldSpec).bare.plain.varTypes Tryd.prog) (ds ++ gs)).all (· ≤ reachBytes) = true) :
    Calls Tryd.prog 7 args W fun e W' => ∃ v, e = .returned v ∧ Rows.exprFoldSpec.post enc Tryd.prog Tryd.f7 false true false false W args v W' := by
  have hval := hval0
  have hW' := hW
  obtain ⟨p, q, hA0, hV, rfl, hfz, hnd⟩ := hW
  have hA : DataW.TrodAll enc Tryd.prog W 0 (fun _ => true) true Tryd.f7.params.toList args.toList ds p := hA0
  rw [Tryd.params7] at hA hval
  obtain ⟨v0, vs0, d0, ds0, p0, q0, hargs, rfl, rfl, h0, r0⟩ := trodAll_cons hA
  obtain ⟨v1, vs1, d1, ds1, p1, q1, rfl, rfl, rfl, h1, r1⟩ := trodAll_cons r0
  obtain ⟨rfl, rfl, rfl⟩ := trodAll_nil r1
  obtain rfl : args = #[v0, v1] := by cases args; simp_all
  obtain ⟨rfl, rfl⟩ := trodVars_none hV
  have k0 := h0
  have lt0 : ∀ x ∈ p0, x.block < W.heap.size := by obtain ⟨m, hm⟩ := k0; exact DataW.trod_lt m _ _ _ hm
  obtain ⟨e0, pe0, ce0, rfl, w0⟩ := open_ex (hval 0 24 v0 rfl rfl) h0 (fun n hn => by have := List.all_eq_true.1 hz n (DataW.weights_mem_each (j := 0) rfl rfl n hn); simpa using this)
  obtain ⟨a1, len1, cap1, rfl⟩ := okWide_slice Tryd.underlying25 (hval 1 25 v1 rfl rfl)
  have k1 := h1
  have lt1 : ∀ x ∈ p1, x.block < W.heap.size := by obtain ⟨m, hm⟩ := k1; exact DataW.trod_lt m _ _ _ hm
  obtain ⟨bs1, rfl, w1⟩ := open_bns h1 (fun n hn => by have := List.all_eq_true.1 hz n (DataW.weights_mem_each (j := 1) rfl rfl n hn); simpa using this)
  clear hA0 hval0 hz
  refine (exprFold_walk e0 pe0 ce0 bs1 a1 cap1 W w0 w1).mono fun W' bel => ?_
  exact ⟨_, rfl, _, _, _, [], _, [], hW', trodAll_mk1 (shut_bool Tryd.underlying4 _), (trodAll_cons_mk (Below.trod laidOut (by kernel_rfl) (of_decide_eq_true (by kernel_rfl)) k0 bel lt0) (trodAll_cons_mk (Below.trod laidOut (by kernel_rfl) (of_decide_eq_true (by kernel_rfl)) k1 bel lt1) trodAll_mk0)), rfl, bel.frame _, fun h => by cases h⟩

set_option maxRecDepth 100000 in
theorem lifted (os : Os) (started : os.Started) (H : Type) (enc : TypeId × Value → H) (F : Stop.Interp) :
    ReturnsInHanded {} Tryd.checked os 7 .any ((OpenSpec.ofChange Rows.exprFoldSpec).preRow enc Tryd.prog Tryd.f7 Rows.exprFoldRow.domain false Rows.exprFoldRow.laid) (((OpenSpec.ofChange Rows.exprFoldSpec).at F).post enc Tryd.prog Tryd.f7 false true false false) := by
  obtain ⟨places, hx⟩ := reads os enc
  refine returnsInHanded_of_row (C := Tryd.checked) (s := OpenSpec.ofChange Rows.exprFoldSpec) own started (by kernel_rfl) Tryd.func7
    (witness_row_at (enc := enc) (C := Tryd.checked) false (laidWorld os) #[.agg #[.int .i64 0, .int .i64 0, .string ByteArray.empty, .int .i64 0, .slice none 0 0], .slice none 0 0] rfl (by kernel_rfl) (by kernel_rfl) (by kernel_rfl)
      (OpenSpec.preRow_of_cond 8 hx (by kernel_rfl) (fun k hk => by cases hk) (by kernel_rfl) (laid_met os))) ?_
  intro W base args ds gs before hval hW _ _ hz _ hsh _
  exact contract H enc W base args ds gs before hval hW hz

theorem said : Rows.ExprFoldSaid :=
  OpenClaim.holds_of_cond 7 Tryd.f7 rfl rfl rfl rfl rfl rfl rfl ⟨rfl, rfl, rfl, rfl, rfl⟩ rfl rfl rfl rfl rfl (by kernel_rfl) Tryd.func7 (by kernel_rfl)
    (of_decide_eq_true (by kernel_rfl)) (by unfold Func.isWrapper; first | (rw [if_pos (by decide +kernel)]; kernel_rfl) | (rw [if_neg (by decide +kernel)]; exact ⟨rfl, rfl⟩))
    (fun os started H enc _ F => by rw [OpenClaim.pre_eq_preRow]; exact lifted os started H enc F)

theorem plain (f : FuncId) (fn : Func) (hf : Tryd.pinned.checked.prog.funcNamed "nursery/nurserylaw09.ExprFold" = some f) (hfn : Tryd.pinned.checked.prog.funcs[f]? = some fn) :
    false = Tryd.pinned.checked.prog.looks [] ∧ ∀ (j : Nat) t, fn.params[j]? = some t → Tryd.pinned.checked.prog.wantsStandIn t = false := by
  obtain rfl : f = 7 := Option.some.inj ((show Tryd.prog.funcNamed "nursery/nurserylaw09.ExprFold" = some 7 by kernel_rfl).symm.trans hf) |>.symm
  obtain rfl : fn = Tryd.f7 := (Option.some.inj (Tryd.func7.symm.trans hfn)).symm
  refine ⟨by kernel_rfl, fun j t ht => ?_⟩
  rw [Tryd.params7] at ht
  rcases j with _ | _ | j
  · obtain rfl : t = 24 := by simpa using ht.symm
    exact (show Tryd.prog.wantsStandIn 24 = false by kernel_rfl)
  · obtain rfl : t = 25 := by simpa using ht.symm
    exact (show Tryd.prog.wantsStandIn 25 = false by kernel_rfl)
  · simp at ht

/-- the statement -/
theorem proved : Rows.ExprFoldCardSaid :=
  Claim7.holds_tied_plain_at .later [] _ _ _ _ said (fun _ h => by cases h) (by kernel_rfl) (fun _ h => by cases h) exprFold_row_tie rfl ⟨rfl, rfl⟩ (by kernel_rfl) rfl plain (by kernel_rfl)
#print axioms proved
end Go.Proofs.YtgkalcboklhdgaaDoor.exprFold

