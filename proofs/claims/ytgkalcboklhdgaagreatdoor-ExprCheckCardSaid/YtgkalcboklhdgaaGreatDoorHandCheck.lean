/- The statement ExprCheckCardSaid: for every input the law returns true, and the arguments read as before; the tables of the library that it lists are tied to the text. The frame round the walk of the law. (With it: ExprCheck: the walk.) -/
import Derived.Stop.LaidErr
import Derived.Test.YtgkalcboklhdgaaGreatDoorCards
import Derived.Test.YtgkalcboklhdgaaGreatDoorTie
import Derived.WalkKit
import Derived.ProofKit
import Derived.OpenShut
import Derived.ShutString
import Derived.ChangeOld
import Derived.Below
import Derived.Deep.DeepHandedRow
import Derived.Lib.LaidTab
import Derived.Shelf.Vars
import Derived.Test.YtgkalcboklhdgaaGreatDoorPart6
import Derived.Test.YtgkalcboklhdgaaGreatDoorPart7
import Derived.Test.YtgkalcboklhdgaaGreatDoorPart8

namespace Go.Proofs.YtgkalcboklhdgaaGreatDoor
open Go.RowKit
set_option linter.unusedVariables false
set_option linter.unusedSimpArgs false
open Ex

/-- the values of the last region -/
def chV (k1 o1 : Int) (n1 : List UInt8) (v1 : Int) (p : Option Addr) (l1 c : Nat) (k2 o2 : Int) (n2 : List UInt8) (v2 : Int) (p2 : Option Addr) (l2 c2 : Nat) (ca E : Int) (s1 : Nat) (S : List UInt8) (q : Bool) (nm : List (List UInt8)) : Nat → Value → World → Prop
  | 0, x, W => x = .agg #[.int .i64 k1, .int .i64 o1, sV n1, .int .i64 v1, .slice p l1 c]
  | 1, x, W => x = .int .i64 ca
  | 2, x, W => x = .agg #[.int .i64 k1, .int .i64 o1, sV n1, .int .i64 v1, .slice p l1 c]
  | 3, x, W => x = .int .i64 ca
  | 4, x, W => x = .bool true
  | 5, x, W => x = .bool true
  | 6, x, W => x = .agg #[.int .i64 k1, .int .i64 o1, sV n1, .int .i64 v1, .slice p l1 c]
  | 7, x, W => x = .int .i64 (s1 : Nat)
  | 8, x, W => x = .agg #[.int .i64 k1, .int .i64 o1, sV n1, .int .i64 v1, .slice p l1 c]
  | 9, x, W => x = .int .i64 (s1 : Nat)
  | 10, x, W => x = .bool true
  | 11, x, W => x = .bool true
  | 12, x, W => x = .bool true
  | 13, x, W => x = .agg #[.int .i64 k1, .int .i64 o1, sV n1, .int .i64 v1, .slice p l1 c]
  | 14, x, W => RowS 0 x nm W
  | 15, x, W => x = .agg #[.int .i64 k1, .int .i64 o1, sV n1, .int .i64 v1, .slice p l1 c]
  | 16, x, W => RowS 0 x nm W
  | 17, x, W => x = .bool true
  | 18, x, W => x = .bool true
  | 19, x, W => x = .bool true
  | 20, x, W => x = sV S
  | 21, x, W => x = sV S
  | 22, x, W => x = .bool true
  | 23, x, W => x = .bool true
  | 24, x, W => x = .bool true
  | 25, x, W => x = .int .i64 E
  | 26, x, W => x = .int .i64 E
  | 27, x, W => x = .bool true
  | 28, x, W => x = .bool true
  | 29, x, W => x = .bool true
  | 30, x, W => x = .agg #[.int .i64 k1, .int .i64 o1, sV n1, .int .i64 v1, .slice p l1 c]
  | 31, x, W => x = .agg #[.int .i64 k2, .int .i64 o2, sV n2, .int .i64 v2, .slice p2 l2 c2]
  | 32, x, W => x = .bool q
  | 33, x, W => x = .agg #[.int .i64 k1, .int .i64 o1, sV n1, .int .i64 v1, .slice p l1 c]
  | 34, x, W => x = .agg #[.int .i64 k2, .int .i64 o2, sV n2, .int .i64 v2, .slice p2 l2 c2]
  | 35, x, W => x = .bool q
  | 36, x, W => x = .bool true
  | 37, x, W => x = .bool true
  | 38, x, W => x = .bool true
  | 39, x, W => x = .bool true
  | 40, x, W => x = .bool true
  | 41, x, W => x = .bool true
  | _, _, _ => True
theorem chV_ext (k1 o1 : Int) (n1 : List UInt8) (v1 : Int) (p : Option Addr) (l1 c : Nat) (k2 o2 : Int) (n2 : List UInt8) (v2 : Int) (p2 : Option Addr) (l2 c2 : Nat) (ca E : Int) (s1 : Nat) (S : List UInt8) (q : Bool) (nm : List (List UInt8)) : ∀ (j : Nat) (x : Value) (W W' : World), chV k1 o1 n1 v1 p l1 c k2 o2 n2 v2 p2 l2 c2 ca E s1 S q nm j x W → Ext W W' → chV k1 o1 n1 v1 p l1 c k2 o2 n2 v2 p2 l2 c2 ca E s1 S q nm j x W'
  | 0, x, W, W', h, hE => h
  | 1, x, W, W', h, hE => h
  | 2, x, W, W', h, hE => h
  | 3, x, W, W', h, hE => h
  | 4, x, W, W', h, hE => h
  | 5, x, W, W', h, hE => h
  | 6, x, W, W', h, hE => h
  | 7, x, W, W', h, hE => h
  | 8, x, W, W', h, hE => h
  | 9, x, W, W', h, hE => h
  | 10, x, W, W', h, hE => h
  | 11, x, W, W', h, hE => h
  | 12, x, W, W', h, hE => h
  | 13, x, W, W', h, hE => h
  | 14, x, W, W', h, hE => RowS.ext h hE
  | 15, x, W, W', h, hE => h
  | 16, x, W, W', h, hE => RowS.ext h hE
  | 17, x, W, W', h, hE => h
  | 18, x, W, W', h, hE => h
  | 19, x, W, W', h, hE => h
  | 20, x, W, W', h, hE => h
  | 21, x, W, W', h, hE => h
  | 22, x, W, W', h, hE => h
  | 23, x, W, W', h, hE => h
  | 24, x, W, W', h, hE => h
  | 25, x, W, W', h, hE => h
  | 26, x, W, W', h, hE => h
  | 27, x, W, W', h, hE => h
  | 28, x, W, W', h, hE => h
  | 29, x, W, W', h, hE => h
  | 30, x, W, W', h, hE => h
  | 31, x, W, W', h, hE => h
  | 32, x, W, W', h, hE => h
  | 33, x, W, W', h, hE => h
  | 34, x, W, W', h, hE => h
  | 35, x, W, W', h, hE => h
  | 36, x, W, W', h, hE => h
  | 37, x, W, W', h, hE => h
  | 38, x, W, W', h, hE => h
  | 39, x, W, W', h, hE => h
  | 40, x, W, W', h, hE => h
  | 41, x, W, W', h, hE => h
  | j + 42, x, W, W', h, hE => trivial
theorem n42 {α : Type} (fs : List α) (h : fs.length = 42) : ∃ x0 x1 x2 x3 x4 x5 x6 x7 x8 x9 x10 x11 x12 x13 x14 x15 x16 x17 x18 x19 x20 x21 x22 x23 x24 x25 x26 x27 x28 x29 x30 x31 x32 x33 x34 x35 x36 x37 x38 x39 x40 x41, fs = x0 :: x1 :: x2 :: x3 :: x4 :: x5 :: x6 :: x7 :: x8 :: x9 :: x10 :: x11 :: x12 :: x13 :: x14 :: x15 :: x16 :: x17 :: x18 :: x19 :: x20 :: x21 :: x22 :: x23 :: x24 :: x25 :: x26 :: x27 :: x28 :: x29 :: x30 :: x31 :: x32 :: x33 :: x34 :: x35 :: x36 :: x37 :: x38 :: x39 :: x40 :: x41 :: [] := by
  match fs, h with
  | x0 :: x1 :: x2 :: x3 :: x4 :: x5 :: x6 :: x7 :: x8 :: x9 :: x10 :: x11 :: x12 :: x13 :: x14 :: x15 :: x16 :: x17 :: x18 :: x19 :: x20 :: x21 :: x22 :: x23 :: x24 :: x25 :: x26 :: x27 :: x28 :: x29 :: x30 :: x31 :: x32 :: x33 :: x34 :: x35 :: x36 :: x37 :: x38 :: x39 :: x40 :: x41 :: [], _ => exact ⟨x0, x1, x2, x3, x4, x5, x6, x7, x8, x9, x10, x11, x12, x13, x14, x15, x16, x17, x18, x19, x20, x21, x22, x23, x24, x25, x26, x27, x28, x29, x30, x31, x32, x33, x34, x35, x36, x37, x38, x39, x40, x41, rfl⟩

theorem sv_row {l : List Oper} {a' : Act} {j t : Nat} {nm : List (List UInt8)} {W : World} (h : RowS 0 (sv l a' j) nm W) (hd : (l[j]?.bind (·.dst)) = some t) : RowS 0 (a'.eval (.tmp t)) nm W := (sv_dst hd) ▸ h
theorem nmR_len (e : Ex) : (nmR e).length ≤ 1000000000 := by
  unfold nmR
  split
  · simp
  · rename_i h
    have h0 : e.chk = 0 := Classical.not_not.1 h
    have h1 := (chk_zero h0).1
    have h2 := nmE_size e
    have h3 := fold_len (nmE e) []
    simp only [List.length_nil] at h3
    omega
set_option maxRecDepth 100000 in
set_option maxHeartbeats 8000000 in
theorem exprCheck_walk (a : Ex) (p : Option Addr) (c : Nat) (b : Ex) (p2 : Option Addr) (c2 : Nat) (w : World) (hA : Ex.At w p a) (hB : Ex.At w p2 b) (hT : TabW w) :
    Gives Tryz.prog 4 #[a.val p c, b.val p2 c2] w (.bool true) := by
  have C0 := Lib.hid (fun W (h : Ext w W) => show Gives _ _ #[.agg #[.int .i64 a.kind, .int .i64 a.op, sV a.name, .int .i64 a.value, .slice p a.args.length c]] _ _ from Great_any a p c W (hA.below h))
  have C1 := Lib.hid (fun W (h : Ext w W) => show Gives _ _ #[.agg #[.int .i64 b.kind, .int .i64 b.op, sV b.name, .int .i64 b.value, .slice p2 b.args.length c2]] _ _ from Great_any b p2 c2 W (hB.below h))
  have CW := Lib.hid (fun W (h : Ext w W) => show Gives _ _ #[.agg #[.int .i64 a.kind, .int .i64 a.op, sV a.name, .int .i64 a.value, .slice p a.args.length c]] _ (.tuple #[sV (prR decI a).1, .int .i64 (prR decI a).2]) from PrintZ_any a p c W (hT.below h.below) (hA.below h))
  have CV := Lib.hid (fun W (h : Ext w W) => show Gives _ _ #[.agg #[.int .i64 a.kind, .int .i64 a.op, sV a.name, .int .i64 a.value, .slice p a.args.length c]] _ (.tuple #[sV (prR decI a).1, .int .i64 (prR decI a).2]) from refPrint_any a p c W (hA.below h))
  have CC0 := Lib.hid (fun W (h : Ext w W) => show Gives _ _ #[.agg #[.int .i64 a.kind, .int .i64 a.op, sV a.name, .int .i64 a.value, .slice p a.args.length c]] _ _ from Check_any a p c W (hA.below h))
  have CR0 := Lib.hid (fun W (h : Ext w W) => show Gives _ _ #[.agg #[.int .i64 a.kind, .int .i64 a.op, sV a.name, .int .i64 a.value, .slice p a.args.length c]] _ _ from refChk_any a p c W (hA.below h))
  have CZ0 := Lib.hid (fun W (h : Ext w W) => show Gives _ _ #[.agg #[.int .i64 a.kind, .int .i64 a.op, sV a.name, .int .i64 a.value, .slice p a.args.length c]] _ _ from Size_any a p c W (hA.below h))
  have CY0 := Lib.hid (fun W (h : Ext w W) => show Gives _ _ #[.agg #[.int .i64 a.kind, .int .i64 a.op, sV a.name, .int .i64 a.value, .slice p a.args.length c]] _ _ from refSize_any a p c W (hA.below h))
  have CN0 := Lib.hid (fun W (h : Ext w W) => show Calls _ _ #[.agg #[.int .i64 a.kind, .int .i64 a.op, sV a.name, .int .i64 a.value, .slice p a.args.length c]] _ _ from Names_any a p c W (hA.below h))
  have CM0 := Lib.hid (fun W (h : Ext w W) => show Calls _ _ #[.agg #[.int .i64 a.kind, .int .i64 a.op, sV a.name, .int .i64 a.value, .slice p a.args.length c]] _ _ from refNames_any a p c W (hA.below h))
  have CQ0 := Lib.hid (fun W (h : Ext w W) => show Gives _ _ #[.agg #[.int .i64 a.kind, .int .i64 a.op, sV a.name, .int .i64 a.value, .slice p a.args.length c], .agg #[.int .i64 b.kind, .int .i64 b.op, sV b.name, .int .i64 b.value, .slice p2 b.args.length c2]] _ _ from EqualX_any a b p p2 c c2 W (hA.below h) (hB.below h))
  have CP0 := Lib.hid (fun W (h : Ext w W) => show Gives _ _ #[.agg #[.int .i64 a.kind, .int .i64 a.op, sV a.name, .int .i64 a.value, .slice p a.args.length c], .agg #[.int .i64 b.kind, .int .i64 b.op, sV b.name, .int .i64 b.value, .slice p2 b.args.length c2]] _ _ from refEqualX_any a b p p2 c c2 W (hA.below h) (hB.below h))
  have CA := Lib.hid (fun W => awake_any W)
  have HNL := Lib.hid (nmR_len a)
  have hv : a.val p c = .agg #[.int .i64 a.kind, .int .i64 a.op, sV a.name, .int .i64 a.value, .slice p a.args.length c] := rfl
  have hv2 : b.val p2 c2 = .agg #[.int .i64 b.kind, .int .i64 b.op, sV b.name, .int .i64 b.value, .slice p2 b.args.length c2] := rfl
  rw [hv, hv2]
  clear hv hv2 hA hB hT
  generalize (a.chk == 0 && (b.chk == 0 && eqE a b)) = q at *
  generalize a.great = ga at *
  generalize b.great = gb at *
  generalize (prR decI a).1 = S at *
  generalize (prR decI a).2 = E at *
  generalize nmR a = nm at *
  generalize min a.size 101 = s1 at *
  generalize a.chk = ca at *
  generalize a.kind = k1 at *
  generalize a.op = o1 at *
  generalize a.name = n1 at *
  generalize a.value = v1 at *
  generalize a.args.length = l1 at *
  generalize b.kind = k2 at *
  generalize b.op = o2 at *
  generalize b.name = n2 at *
  generalize b.value = v2 at *
  generalize b.args.length = l2 at *
  obtain ⟨hb1, hb2, hE⟩ := two_boxes w (.int .i64 k1) (.int .i64 o1) (sV n1) (.int .i64 v1) (.slice p l1 c) (.int .i64 k2) (.int .i64 o2) (sV n2) (.int .i64 v2) (.slice p2 l2 c2) tEx
  have Ka := Lib.hid hb1
  have Kb := Lib.hid hb2
  have HX := Lib.hid hE
  clear hb1 hb2 hE
  unfold Gives
  cases ga with
  | true =>
    go_enter Tryz.func4, Tryz.ntmps4
    obtain ⟨a0, a1, a2, a3, a4, a5⟩ := box5z Ka.out
    have lta := lt_of_block Ka.out
    obtain ⟨b0, b1, b2, b3, b4, b5⟩ := box5z Kb.out
    have ltb := lt_of_block Kb.out
    go_wp2_with fail
    refine (C0.out _ HX.out).mono ?_
    intro w1 hE
    replace hE : Ext _ w1 := hE
    clear a0 a1 a2 a3 a4 a5 lta
    clear b0 b1 b2 b3 b4 b5 ltb
    replace Ka := Lib.hid ((hE.below.block _ (lt_of_block Ka.out)).trans Ka.out)
    replace Kb := Lib.hid ((hE.below.block _ (lt_of_block Kb.out)).trans Kb.out)
    replace HX := Lib.hid (Ext.trans HX.out hE)
    clear hE
    obtain ⟨a0, a1, a2, a3, a4, a5⟩ := box5z Ka.out
    have lta := lt_of_block Ka.out
    obtain ⟨b0, b1, b2, b3, b4, b5⟩ := box5z Kb.out
    have ltb := lt_of_block Kb.out
    go_wp2_with fail
    refine (CA.out _).mono ?_
    intro w2 hE
    replace hE : Ext _ w2 := hE
    clear a0 a1 a2 a3 a4 a5 lta
    clear b0 b1 b2 b3 b4 b5 ltb
    replace Ka := Lib.hid ((hE.below.block _ (lt_of_block Ka.out)).trans Ka.out)
    replace Kb := Lib.hid ((hE.below.block _ (lt_of_block Kb.out)).trans Kb.out)
    replace HX := Lib.hid (Ext.trans HX.out hE)
    clear hE
    obtain ⟨a0, a1, a2, a3, a4, a5⟩ := box5z Ka.out
    have lta := lt_of_block Ka.out
    obtain ⟨b0, b1, b2, b3, b4, b5⟩ := box5z Kb.out
    have ltb := lt_of_block Kb.out
    clear a0 a1 a2 a3 a4 a5 lta
    clear b0 b1 b2 b3 b4 b5 ltb
    go_wp2
    go_ret
    exact ⟨rfl, HX.out⟩
  | false =>
    cases gb with
    | true =>
      go_enter Tryz.func4, Tryz.ntmps4
      obtain ⟨a0, a1, a2, a3, a4, a5⟩ := box5z Ka.out
      have lta := lt_of_block Ka.out
      obtain ⟨b0, b1, b2, b3, b4, b5⟩ := box5z Kb.out
      have ltb := lt_of_block Kb.out
      go_wp2_with fail
      refine (C0.out _ HX.out).mono ?_
      intro w1 hE
      replace hE : Ext _ w1 := hE
      clear a0 a1 a2 a3 a4 a5 lta
      clear b0 b1 b2 b3 b4 b5 ltb
      replace Ka := Lib.hid ((hE.below.block _ (lt_of_block Ka.out)).trans Ka.out)
      replace Kb := Lib.hid ((hE.below.block _ (lt_of_block Kb.out)).trans Kb.out)
      replace HX := Lib.hid (Ext.trans HX.out hE)
      clear hE
      obtain ⟨a0, a1, a2, a3, a4, a5⟩ := box5z Ka.out
      have lta := lt_of_block Ka.out
      obtain ⟨b0, b1, b2, b3, b4, b5⟩ := box5z Kb.out
      have ltb := lt_of_block Kb.out
      go_wp2_with fail
      refine (C1.out _ HX.out).mono ?_
      intro w2 hE
      replace hE : Ext _ w2 := hE
      clear a0 a1 a2 a3 a4 a5 lta
      clear b0 b1 b2 b3 b4 b5 ltb
      replace Ka := Lib.hid ((hE.below.block _ (lt_of_block Ka.out)).trans Ka.out)
      replace Kb := Lib.hid ((hE.below.block _ (lt_of_block Kb.out)).trans Kb.out)
      replace HX := Lib.hid (Ext.trans HX.out hE)
      clear hE
      obtain ⟨a0, a1, a2, a3, a4, a5⟩ := box5z Ka.out
      have lta := lt_of_block Ka.out
      obtain ⟨b0, b1, b2, b3, b4, b5⟩ := box5z Kb.out
      have ltb := lt_of_block Kb.out
      go_wp2_with fail
      refine (CA.out _).mono ?_
      intro w3 hE
      replace hE : Ext _ w3 := hE
      clear a0 a1 a2 a3 a4 a5 lta
      clear b0 b1 b2 b3 b4 b5 ltb
      replace Ka := Lib.hid ((hE.below.block _ (lt_of_block Ka.out)).trans Ka.out)
      replace Kb := Lib.hid ((hE.below.block _ (lt_of_block Kb.out)).trans Kb.out)
      replace HX := Lib.hid (Ext.trans HX.out hE)
      clear hE
      obtain ⟨a0, a1, a2, a3, a4, a5⟩ := box5z Ka.out
      have lta := lt_of_block Ka.out
      obtain ⟨b0, b1, b2, b3, b4, b5⟩ := box5z Kb.out
      have ltb := lt_of_block Kb.out
      clear a0 a1 a2 a3 a4 a5 lta
      clear b0 b1 b2 b3 b4 b5 ltb
      go_wp2
      go_ret
      exact ⟨rfl, HX.out⟩
    | false =>
      go_enter Tryz.func4, Tryz.ntmps4
      obtain ⟨a0, a1, a2, a3, a4, a5⟩ := box5z Ka.out
      have lta := lt_of_block Ka.out
      obtain ⟨b0, b1, b2, b3, b4, b5⟩ := box5z Kb.out
      have ltb := lt_of_block Kb.out
      go_wp2_with fail
      refine (C0.out _ HX.out).mono ?_
      intro w1 hE
      replace hE : Ext _ w1 := hE
      clear a0 a1 a2 a3 a4 a5 lta
      clear b0 b1 b2 b3 b4 b5 ltb
      replace Ka := Lib.hid ((hE.below.block _ (lt_of_block Ka.out)).trans Ka.out)
      replace Kb := Lib.hid ((hE.below.block _ (lt_of_block Kb.out)).trans Kb.out)
      replace HX := Lib.hid (Ext.trans HX.out hE)
      clear hE
      obtain ⟨a0, a1, a2, a3, a4, a5⟩ := box5z Ka.out
      have lta := lt_of_block Ka.out
      obtain ⟨b0, b1, b2, b3, b4, b5⟩ := box5z Kb.out
      have ltb := lt_of_block Kb.out
      go_wp2_with fail
      refine (C1.out _ HX.out).mono ?_
      intro w2 hE
      replace hE : Ext _ w2 := hE
      clear a0 a1 a2 a3 a4 a5 lta
      clear b0 b1 b2 b3 b4 b5 ltb
      replace Ka := Lib.hid ((hE.below.block _ (lt_of_block Ka.out)).trans Ka.out)
      replace Kb := Lib.hid ((hE.below.block _ (lt_of_block Kb.out)).trans Kb.out)
      replace HX := Lib.hid (Ext.trans HX.out hE)
      clear hE
      obtain ⟨a0, a1, a2, a3, a4, a5⟩ := box5z Ka.out
      have lta := lt_of_block Ka.out
      obtain ⟨b0, b1, b2, b3, b4, b5⟩ := box5z Kb.out
      have ltb := lt_of_block Kb.out
      go_wp2_with fail
      refine (CW.out _ HX.out).mono ?_
      intro w3 hE
      replace hE : Ext _ w3 := hE
      clear a0 a1 a2 a3 a4 a5 lta
      clear b0 b1 b2 b3 b4 b5 ltb
      replace Ka := Lib.hid ((hE.below.block _ (lt_of_block Ka.out)).trans Ka.out)
      replace Kb := Lib.hid ((hE.below.block _ (lt_of_block Kb.out)).trans Kb.out)
      replace HX := Lib.hid (Ext.trans HX.out hE)
      clear hE
      obtain ⟨a0, a1, a2, a3, a4, a5⟩ := box5z Ka.out
      have lta := lt_of_block Ka.out
      obtain ⟨b0, b1, b2, b3, b4, b5⟩ := box5z Kb.out
      have ltb := lt_of_block Kb.out
      go_wp2_with fail
      refine (CV.out _ HX.out).mono ?_
      intro w4 hE
      replace hE : Ext _ w4 := hE
      clear a0 a1 a2 a3 a4 a5 lta
      clear b0 b1 b2 b3 b4 b5 ltb
      replace Ka := Lib.hid ((hE.below.block _ (lt_of_block Ka.out)).trans Ka.out)
      replace Kb := Lib.hid ((hE.below.block _ (lt_of_block Kb.out)).trans Kb.out)
      replace HX := Lib.hid (Ext.trans HX.out hE)
      clear hE
      obtain ⟨a0, a1, a2, a3, a4, a5⟩ := box5z Ka.out
      have lta := lt_of_block Ka.out
      obtain ⟨b0, b1, b2, b3, b4, b5⟩ := box5z Kb.out
      have ltb := lt_of_block Kb.out
      go_wp2_with fail
      have ka := Ka.out
      have kb := Kb.out
      have CC := Lib.hid (fun W (h : Ext _ W) => CC0.out W (Ext.trans HX.out h))
      have CR := Lib.hid (fun W (h : Ext _ W) => CR0.out W (Ext.trans HX.out h))
      have CZ := Lib.hid (fun W (h : Ext _ W) => CZ0.out W (Ext.trans HX.out h))
      have CY := Lib.hid (fun W (h : Ext _ W) => CY0.out W (Ext.trans HX.out h))
      have CN := Lib.hid (fun W (h : Ext _ W) => CN0.out W (Ext.trans HX.out h))
      have CM := Lib.hid (fun W (h : Ext _ W) => CM0.out W (Ext.trans HX.out h))
      have CQ := Lib.hid (fun W (h : Ext _ W) => CQ0.out W (Ext.trans HX.out h))
      have CP := Lib.hid (fun W (h : Ext _ W) => CP0.out W (Ext.trans HX.out h))
      clear CC0 CR0 CZ0 CY0 CN0 CM0 CQ0 CP0 CW CV C0 C1
      clear a0 a1 a2 a3 a4 a5 lta
      clear b0 b1 b2 b3 b4 b5 ltb
      generalize hbb : w.heap.size + 1 = bb at *
      generalize w.heap.size = ba at *
      refine wp_region_g (by kernel_rfl) Ext (fun W => show Below W.heap.size W { W with drawn := W.drawn + 1 } from ⟨rfl, rfl, rfl, Nat.le_refl _, fun _ _ => rfl⟩) Ext.trans (fun i s W => chV k1 o1 n1 v1 p l1 c k2 o2 n2 v2 p2 l2 c2 ca E s1 S q nm i (s i) W) (fun j => [j]) (fun j s s' W W' h hs hE => by show chV k1 o1 n1 v1 p l1 c k2 o2 n2 v2 p2 l2 c2 ca E s1 S q nm j (s' j) W'; rw [hs j (by simp)]; exact chV_ext k1 o1 n1 v1 p l1 c k2 o2 n2 v2 p2 l2 c2 ca E s1 S q nm j _ W W' h hE) (by kernel_rfl) (by kernel_rfl) (by kernel_rfl) 67 rfl (by kernel_rfl) ?_ ?_
      · intro i op ho a' W hA
        obtain ⟨x0, x1, x2, x3, x4, _⟩ := box5z ((hA.rel.below.block _ (lt_of_block ka)).trans ka)
        obtain ⟨y0, y1, y2, y3, y4, _⟩ := box5z ((hA.rel.below.block _ (lt_of_block kb)).trans kb)
        match i, ho with
        | 0, ho =>
          obtain rfl := Option.some.inj ho
          have e1 : a'.eval (.tmp 2) = .pointer (some ⟨ba, 0, none⟩) := hA.keep 2 (by kernel_rfl)
          refine GoesG.value (.agg #[.int .i64 k1, .int .i64 o1, sV n1, .int .i64 v1, .slice p l1 c]) rfl ?_ (Below.refl _ _) (fun s h1 h2 => h1 rfl)
          simp only [execOp, e1]
          simp [go_sem, x0, x1, x2, x3, x4, y0, y1, y2, y3, y4]
        | 1, ho =>
          obtain rfl := Option.some.inj ho
          have e1 : a'.eval (.tmp 26) = .agg #[.int .i64 k1, .int .i64 o1, sV n1, .int .i64 v1, .slice p l1 c] := (sv_dst (l := _) rfl).symm.trans (hA.new 0 (by decide) (by kernel_rfl))
          refine GoesG.call 17 #[.agg #[.int .i64 k1, .int .i64 o1, sV n1, .int .i64 v1, .slice p l1 c]] rfl ?_ ((CC.out _ hA.rel).mono ?_)
          · simp [execOp, resolve, invoke, Deferred.ofValue, e1]
            rfl
          · intro W1 hE
            exact ⟨_, rfl, hE, fun s h1 h2 => h1 rfl⟩
        | 2, ho =>
          obtain rfl := Option.some.inj ho
          have e1 : a'.eval (.tmp 2) = .pointer (some ⟨ba, 0, none⟩) := hA.keep 2 (by kernel_rfl)
          refine GoesG.value (.agg #[.int .i64 k1, .int .i64 o1, sV n1, .int .i64 v1, .slice p l1 c]) rfl ?_ (Below.refl _ _) (fun s h1 h2 => h1 rfl)
          simp only [execOp, e1]
          simp [go_sem, x0, x1, x2, x3, x4, y0, y1, y2, y3, y4]
        | 3, ho =>
          obtain rfl := Option.some.inj ho
          have e1 : a'.eval (.tmp 28) = .agg #[.int .i64 k1, .int .i64 o1, sV n1, .int .i64 v1, .slice p l1 c] := (sv_dst (l := _) rfl).symm.trans (hA.new 2 (by decide) (by kernel_rfl))
          refine GoesG.call 18 #[.agg #[.int .i64 k1, .int .i64 o1, sV n1, .int .i64 v1, .slice p l1 c]] rfl ?_ ((CR.out _ hA.rel).mono ?_)
          · simp [execOp, resolve, invoke, Deferred.ofValue, e1]
            rfl
          · intro W1 hE
            exact ⟨_, rfl, hE, fun s h1 h2 => h1 rfl⟩
        | 4, ho =>
          obtain rfl := Option.some.inj ho
          have e1 : a'.eval (.tmp 27) = .int .i64 ca := (sv_dst (l := _) rfl).symm.trans (hA.new 1 (by decide) (by kernel_rfl))
          have e2 : a'.eval (.tmp 29) = .int .i64 ca := (sv_dst (l := _) rfl).symm.trans (hA.new 3 (by decide) (by kernel_rfl))
          refine GoesG.value (.bool true) rfl ?_ (Below.refl _ _) (fun s h1 h2 => h1 rfl)
          simp only [execOp, e1, e2]
          simp [go_sem, x0, x1, x2, x3, x4, y0, y1, y2, y3, y4]
        | 5, ho =>
          obtain rfl := Option.some.inj ho
          have e1 : a'.eval (.tmp 30) = .bool true := (sv_dst (l := _) rfl).symm.trans (hA.new 4 (by decide) (by kernel_rfl))
          refine GoesG.value (.bool true) rfl ?_ (Below.refl _ _) (fun s h1 h2 => h1 rfl)
          simp only [execOp, e1]
          simp [go_sem, x0, x1, x2, x3, x4, y0, y1, y2, y3, y4]
        | 6, ho =>
          obtain rfl := Option.some.inj ho
          have hg := hA.new 5 (by decide) (by kernel_rfl)
          have e1 : a'.eval (.tmp 2) = .pointer (some ⟨ba, 0, none⟩) := hA.keep 2 (by kernel_rfl)
          refine GoesG.valueW (.agg #[.int .i64 k1, .int .i64 o1, sV n1, .int .i64 v1, .slice p l1 c]) 5 true true rfl hg rfl ?_ (Below.refl _ _) (fun s h1 h2 => h1 rfl)
          simp only [execOp, e1]
          simp [go_sem, x0, x1, x2, x3, x4, y0, y1, y2, y3, y4]
        | 7, ho =>
          obtain rfl := Option.some.inj ho
          have hg := hA.new 5 (by decide) (by kernel_rfl)
          have e1 : a'.eval (.tmp 32) = .agg #[.int .i64 k1, .int .i64 o1, sV n1, .int .i64 v1, .slice p l1 c] := (sv_dst (l := _) rfl).symm.trans (hA.new 6 (by decide) (by kernel_rfl))
          refine GoesG.callW 19 #[.agg #[.int .i64 k1, .int .i64 o1, sV n1, .int .i64 v1, .slice p l1 c]] 5 true true rfl hg rfl ?_ ((CZ.out _ hA.rel).mono ?_)
          · simp [execOp, resolve, invoke, Deferred.ofValue, e1]
            rfl
          · intro W1 hE
            exact ⟨_, rfl, hE, fun s h1 h2 => h1 rfl⟩
        | 8, ho =>
          obtain rfl := Option.some.inj ho
          have hg := hA.new 5 (by decide) (by kernel_rfl)
          have e1 : a'.eval (.tmp 2) = .pointer (some ⟨ba, 0, none⟩) := hA.keep 2 (by kernel_rfl)
          refine GoesG.valueW (.agg #[.int .i64 k1, .int .i64 o1, sV n1, .int .i64 v1, .slice p l1 c]) 5 true true rfl hg rfl ?_ (Below.refl _ _) (fun s h1 h2 => h1 rfl)
          simp only [execOp, e1]
          simp [go_sem, x0, x1, x2, x3, x4, y0, y1, y2, y3, y4]
        | 9, ho =>
          obtain rfl := Option.some.inj ho
          have hg := hA.new 5 (by decide) (by kernel_rfl)
          have e1 : a'.eval (.tmp 34) = .agg #[.int .i64 k1, .int .i64 o1, sV n1, .int .i64 v1, .slice p l1 c] := (sv_dst (l := _) rfl).symm.trans (hA.new 8 (by decide) (by kernel_rfl))
          refine GoesG.callW 20 #[.agg #[.int .i64 k1, .int .i64 o1, sV n1, .int .i64 v1, .slice p l1 c]] 5 true true rfl hg rfl ?_ ((CY.out _ hA.rel).mono ?_)
          · simp [execOp, resolve, invoke, Deferred.ofValue, e1]
            rfl
          · intro W1 hE
            exact ⟨_, rfl, hE, fun s h1 h2 => h1 rfl⟩
        | 10, ho =>
          obtain rfl := Option.some.inj ho
          have hg := hA.new 5 (by decide) (by kernel_rfl)
          have e1 : a'.eval (.tmp 33) = .int .i64 (s1 : Nat) := (sv_dst (l := _) rfl).symm.trans (hA.new 7 (by decide) (by kernel_rfl))
          have e2 : a'.eval (.tmp 35) = .int .i64 (s1 : Nat) := (sv_dst (l := _) rfl).symm.trans (hA.new 9 (by decide) (by kernel_rfl))
          refine GoesG.valueW (.bool true) 5 true true rfl hg rfl ?_ (Below.refl _ _) (fun s h1 h2 => h1 rfl)
          simp only [execOp, e1, e2]
          simp [go_sem, x0, x1, x2, x3, x4, y0, y1, y2, y3, y4]
        | 11, ho =>
          obtain rfl := Option.some.inj ho
          have e1 : a'.eval (.tmp 31) = .bool true := (sv_dst (l := _) rfl).symm.trans (hA.new 5 (by decide) (by kernel_rfl))
          have e2 : a'.eval (.tmp 36) = .bool true := (sv_dst (l := _) rfl).symm.trans (hA.new 10 (by decide) (by kernel_rfl))
          refine GoesG.value (.bool true) rfl ?_ (Below.refl _ _) (fun s h1 h2 => h1 rfl)
          simp only [execOp, e1, e2]
          simp [go_sem, x0, x1, x2, x3, x4, y0, y1, y2, y3, y4]
        | 12, ho =>
          obtain rfl := Option.some.inj ho
          have e1 : a'.eval (.tmp 37) = .bool true := (sv_dst (l := _) rfl).symm.trans (hA.new 11 (by decide) (by kernel_rfl))
          refine GoesG.value (.bool true) rfl ?_ (Below.refl _ _) (fun s h1 h2 => h1 rfl)
          simp only [execOp, e1]
          simp [go_sem, x0, x1, x2, x3, x4, y0, y1, y2, y3, y4]
        | 13, ho =>
          obtain rfl := Option.some.inj ho
          have hg := hA.new 12 (by decide) (by kernel_rfl)
          have e1 : a'.eval (.tmp 2) = .pointer (some ⟨ba, 0, none⟩) := hA.keep 2 (by kernel_rfl)
          refine GoesG.valueW (.agg #[.int .i64 k1, .int .i64 o1, sV n1, .int .i64 v1, .slice p l1 c]) 12 true true rfl hg rfl ?_ (Below.refl _ _) (fun s h1 h2 => h1 rfl)
          simp only [execOp, e1]
          simp [go_sem, x0, x1, x2, x3, x4, y0, y1, y2, y3, y4]
        | 14, ho =>
          obtain rfl := Option.some.inj ho
          have hg := hA.new 12 (by decide) (by kernel_rfl)
          have e1 : a'.eval (.tmp 39) = .agg #[.int .i64 k1, .int .i64 o1, sV n1, .int .i64 v1, .slice p l1 c] := (sv_dst (l := _) rfl).symm.trans (hA.new 13 (by decide) (by kernel_rfl))
          refine GoesG.callW 11 #[.agg #[.int .i64 k1, .int .i64 o1, sV n1, .int .i64 v1, .slice p l1 c]] 12 true true rfl hg rfl ?_ ((CN.out _ hA.rel).mono ?_)
          · simp [execOp, resolve, invoke, Deferred.ofValue, e1]
            rfl
          · rintro _ W1 ⟨v', rfl, hr, hE⟩
            exact ⟨_, rfl, hE, fun s h1 h2 => by show RowS 0 (s 14) nm W1; rw [h1 rfl]; exact hr.le (Nat.zero_le _)⟩
        | 15, ho =>
          obtain rfl := Option.some.inj ho
          have hg := hA.new 12 (by decide) (by kernel_rfl)
          have e1 : a'.eval (.tmp 2) = .pointer (some ⟨ba, 0, none⟩) := hA.keep 2 (by kernel_rfl)
          refine GoesG.valueW (.agg #[.int .i64 k1, .int .i64 o1, sV n1, .int .i64 v1, .slice p l1 c]) 12 true true rfl hg rfl ?_ (Below.refl _ _) (fun s h1 h2 => h1 rfl)
          simp only [execOp, e1]
          simp [go_sem, x0, x1, x2, x3, x4, y0, y1, y2, y3, y4]
        | 16, ho =>
          obtain rfl := Option.some.inj ho
          have hg := hA.new 12 (by decide) (by kernel_rfl)
          have e1 : a'.eval (.tmp 41) = .agg #[.int .i64 k1, .int .i64 o1, sV n1, .int .i64 v1, .slice p l1 c] := (sv_dst (l := _) rfl).symm.trans (hA.new 15 (by decide) (by kernel_rfl))
          refine GoesG.callW 22 #[.agg #[.int .i64 k1, .int .i64 o1, sV n1, .int .i64 v1, .slice p l1 c]] 12 true true rfl hg rfl ?_ ((CM.out _ hA.rel).mono ?_)
          · simp [execOp, resolve, invoke, Deferred.ofValue, e1]
            rfl
          · rintro _ W1 ⟨v', rfl, hr, hE⟩
            exact ⟨_, rfl, hE, fun s h1 h2 => by show RowS 0 (s 16) nm W1; rw [h1 rfl]; exact hr.le (Nat.zero_le _)⟩
        | 17, ho =>
          obtain rfl := Option.some.inj ho
          have hg := hA.new 12 (by decide) (by kernel_rfl)
          have q1 : RowS 0 (sv _ a' 14) nm W := hA.new 14 (by decide) (by kernel_rfl)
          have q2 : RowS 0 (sv _ a' 16) nm W := hA.new 16 (by decide) (by kernel_rfl)
          have r1 : RowS 0 (a'.eval (.tmp 40)) nm W := sv_row q1 rfl
          have r2 : RowS 0 (a'.eval (.tmp 42)) nm W := sv_row q2 rfl
          generalize e1 : a'.eval (.tmp 40) = x14 at r1
          generalize e2 : a'.eval (.tmp 42) = x16 at r2
          refine GoesG.callW 21 #[x14, x16] 12 true true rfl hg rfl ?_ ((Equal_row r1 r2 HNL.out).mono ?_)
          · simp [execOp, resolve, invoke, Deferred.ofValue, e1, e2]
            rfl
          · intro W1 hE
            exact ⟨_, rfl, hE, fun s h1 h2 => h1 rfl⟩
        | 18, ho =>
          obtain rfl := Option.some.inj ho
          have e1 : a'.eval (.tmp 38) = .bool true := (sv_dst (l := _) rfl).symm.trans (hA.new 12 (by decide) (by kernel_rfl))
          have e2 : a'.eval (.tmp 43) = .bool true := (sv_dst (l := _) rfl).symm.trans (hA.new 17 (by decide) (by kernel_rfl))
          refine GoesG.value (.bool true) rfl ?_ (Below.refl _ _) (fun s h1 h2 => h1 rfl)
          simp only [execOp, e1, e2]
          simp [go_sem, x0, x1, x2, x3, x4, y0, y1, y2, y3, y4]
        | 19, ho =>
          obtain rfl := Option.some.inj ho
          have e1 : a'.eval (.tmp 44) = .bool true := (sv_dst (l := _) rfl).symm.trans (hA.new 18 (by decide) (by kernel_rfl))
          refine GoesG.value (.bool true) rfl ?_ (Below.refl _ _) (fun s h1 h2 => h1 rfl)
          simp only [execOp, e1]
          simp [go_sem, x0, x1, x2, x3, x4, y0, y1, y2, y3, y4]
        | 20, ho =>
          obtain rfl := Option.some.inj ho
          have hg := hA.new 19 (by decide) (by kernel_rfl)
          have e1 : a'.eval (.tmp 5) = sV S := hA.keep 5 (by kernel_rfl)
          refine GoesG.valueW (sV S) 19 true true rfl hg rfl ?_ (Below.refl _ _) (fun s h1 h2 => h1 rfl)
          simp only [execOp, e1]
          simp [go_sem, x0, x1, x2, x3, x4, y0, y1, y2, y3, y4]
        | 21, ho =>
          obtain rfl := Option.some.inj ho
          have hg := hA.new 19 (by decide) (by kernel_rfl)
          have e1 : a'.eval (.tmp 7) = sV S := hA.keep 7 (by kernel_rfl)
          refine GoesG.valueW (sV S) 19 true true rfl hg rfl ?_ (Below.refl _ _) (fun s h1 h2 => h1 rfl)
          simp only [execOp, e1]
          simp [go_sem, x0, x1, x2, x3, x4, y0, y1, y2, y3, y4]
        | 22, ho =>
          obtain rfl := Option.some.inj ho
          have hg := hA.new 19 (by decide) (by kernel_rfl)
          have e1 : a'.eval (.tmp 46) = sV S := (sv_dst (l := _) rfl).symm.trans (hA.new 20 (by decide) (by kernel_rfl))
          have e2 : a'.eval (.tmp 47) = sV S := (sv_dst (l := _) rfl).symm.trans (hA.new 21 (by decide) (by kernel_rfl))
          refine GoesG.valueW (.bool true) 19 true true rfl hg rfl ?_ (Below.refl _ _) (fun s h1 h2 => h1 rfl)
          simp only [execOp, e1, e2]
          simp [go_sem, x0, x1, x2, x3, x4, y0, y1, y2, y3, y4]
        | 23, ho =>
          obtain rfl := Option.some.inj ho
          have e1 : a'.eval (.tmp 45) = .bool true := (sv_dst (l := _) rfl).symm.trans (hA.new 19 (by decide) (by kernel_rfl))
          have e2 : a'.eval (.tmp 48) = .bool true := (sv_dst (l := _) rfl).symm.trans (hA.new 22 (by decide) (by kernel_rfl))
          refine GoesG.value (.bool true) rfl ?_ (Below.refl _ _) (fun s h1 h2 => h1 rfl)
          simp only [execOp, e1, e2]
          simp [go_sem, x0, x1, x2, x3, x4, y0, y1, y2, y3, y4]
        | 24, ho =>
          obtain rfl := Option.some.inj ho
          have e1 : a'.eval (.tmp 49) = .bool true := (sv_dst (l := _) rfl).symm.trans (hA.new 23 (by decide) (by kernel_rfl))
          refine GoesG.value (.bool true) rfl ?_ (Below.refl _ _) (fun s h1 h2 => h1 rfl)
          simp only [execOp, e1]
          simp [go_sem, x0, x1, x2, x3, x4, y0, y1, y2, y3, y4]
        | 25, ho =>
          obtain rfl := Option.some.inj ho
          have hg := hA.new 24 (by decide) (by kernel_rfl)
          have e1 : a'.eval (.tmp 6) = .int .i64 E := hA.keep 6 (by kernel_rfl)
          refine GoesG.valueW (.int .i64 E) 24 true true rfl hg rfl ?_ (Below.refl _ _) (fun s h1 h2 => h1 rfl)
          simp only [execOp, e1]
          simp [go_sem, x0, x1, x2, x3, x4, y0, y1, y2, y3, y4]
        | 26, ho =>
          obtain rfl := Option.some.inj ho
          have hg := hA.new 24 (by decide) (by kernel_rfl)
          have e1 : a'.eval (.tmp 8) = .int .i64 E := hA.keep 8 (by kernel_rfl)
          refine GoesG.valueW (.int .i64 E) 24 true true rfl hg rfl ?_ (Below.refl _ _) (fun s h1 h2 => h1 rfl)
          simp only [execOp, e1]
          simp [go_sem, x0, x1, x2, x3, x4, y0, y1, y2, y3, y4]
        | 27, ho =>
          obtain rfl := Option.some.inj ho
          have hg := hA.new 24 (by decide) (by kernel_rfl)
          have e1 : a'.eval (.tmp 51) = .int .i64 E := (sv_dst (l := _) rfl).symm.trans (hA.new 25 (by decide) (by kernel_rfl))
          have e2 : a'.eval (.tmp 52) = .int .i64 E := (sv_dst (l := _) rfl).symm.trans (hA.new 26 (by decide) (by kernel_rfl))
          refine GoesG.valueW (.bool true) 24 true true rfl hg rfl ?_ (Below.refl _ _) (fun s h1 h2 => h1 rfl)
          simp only [execOp, e1, e2]
          simp [go_sem, x0, x1, x2, x3, x4, y0, y1, y2, y3, y4]
        | 28, ho =>
          obtain rfl := Option.some.inj ho
          have e1 : a'.eval (.tmp 50) = .bool true := (sv_dst (l := _) rfl).symm.trans (hA.new 24 (by decide) (by kernel_rfl))
          have e2 : a'.eval (.tmp 53) = .bool true := (sv_dst (l := _) rfl).symm.trans (hA.new 27 (by decide) (by kernel_rfl))
          refine GoesG.value (.bool true) rfl ?_ (Below.refl _ _) (fun s h1 h2 => h1 rfl)
          simp only [execOp, e1, e2]
          simp [go_sem, x0, x1, x2, x3, x4, y0, y1, y2, y3, y4]
        | 29, ho =>
          obtain rfl := Option.some.inj ho
          have e1 : a'.eval (.tmp 54) = .bool true := (sv_dst (l := _) rfl).symm.trans (hA.new 28 (by decide) (by kernel_rfl))
          refine GoesG.value (.bool true) rfl ?_ (Below.refl _ _) (fun s h1 h2 => h1 rfl)
          simp only [execOp, e1]
          simp [go_sem, x0, x1, x2, x3, x4, y0, y1, y2, y3, y4]
        | 30, ho =>
          obtain rfl := Option.some.inj ho
          have hg := hA.new 29 (by decide) (by kernel_rfl)
          have e1 : a'.eval (.tmp 2) = .pointer (some ⟨ba, 0, none⟩) := hA.keep 2 (by kernel_rfl)
          refine GoesG.valueW (.agg #[.int .i64 k1, .int .i64 o1, sV n1, .int .i64 v1, .slice p l1 c]) 29 true true rfl hg rfl ?_ (Below.refl _ _) (fun s h1 h2 => h1 rfl)
          simp only [execOp, e1]
          simp [go_sem, x0, x1, x2, x3, x4, y0, y1, y2, y3, y4]
        | 31, ho =>
          obtain rfl := Option.some.inj ho
          have hg := hA.new 29 (by decide) (by kernel_rfl)
          have e1 : a'.eval (.tmp 3) = .pointer (some ⟨bb, 0, none⟩) := hA.keep 3 (by kernel_rfl)
          refine GoesG.valueW (.agg #[.int .i64 k2, .int .i64 o2, sV n2, .int .i64 v2, .slice p2 l2 c2]) 29 true true rfl hg rfl ?_ (Below.refl _ _) (fun s h1 h2 => h1 rfl)
          simp only [execOp, e1]
          simp [go_sem, x0, x1, x2, x3, x4, y0, y1, y2, y3, y4]
        | 32, ho =>
          obtain rfl := Option.some.inj ho
          have hg := hA.new 29 (by decide) (by kernel_rfl)
          have e1 : a'.eval (.tmp 56) = .agg #[.int .i64 k1, .int .i64 o1, sV n1, .int .i64 v1, .slice p l1 c] := (sv_dst (l := _) rfl).symm.trans (hA.new 30 (by decide) (by kernel_rfl))
          have e2 : a'.eval (.tmp 57) = .agg #[.int .i64 k2, .int .i64 o2, sV n2, .int .i64 v2, .slice p2 l2 c2] := (sv_dst (l := _) rfl).symm.trans (hA.new 31 (by decide) (by kernel_rfl))
          refine GoesG.callW 10 #[.agg #[.int .i64 k1, .int .i64 o1, sV n1, .int .i64 v1, .slice p l1 c], .agg #[.int .i64 k2, .int .i64 o2, sV n2, .int .i64 v2, .slice p2 l2 c2]] 29 true true rfl hg rfl ?_ ((CQ.out _ hA.rel).mono ?_)
          · simp [execOp, resolve, invoke, Deferred.ofValue, e1, e2]
            rfl
          · intro W1 hE
            exact ⟨_, rfl, hE, fun s h1 h2 => h1 rfl⟩
        | 33, ho =>
          obtain rfl := Option.some.inj ho
          have hg := hA.new 29 (by decide) (by kernel_rfl)
          have e1 : a'.eval (.tmp 2) = .pointer (some ⟨ba, 0, none⟩) := hA.keep 2 (by kernel_rfl)
          refine GoesG.valueW (.agg #[.int .i64 k1, .int .i64 o1, sV n1, .int .i64 v1, .slice p l1 c]) 29 true true rfl hg rfl ?_ (Below.refl _ _) (fun s h1 h2 => h1 rfl)
          simp only [execOp, e1]
          simp [go_sem, x0, x1, x2, x3, x4, y0, y1, y2, y3, y4]
        | 34, ho =>
          obtain rfl := Option.some.inj ho
          have hg := hA.new 29 (by decide) (by kernel_rfl)
          have e1 : a'.eval (.tmp 3) = .pointer (some ⟨bb, 0, none⟩) := hA.keep 3 (by kernel_rfl)
          refine GoesG.valueW (.agg #[.int .i64 k2, .int .i64 o2, sV n2, .int .i64 v2, .slice p2 l2 c2]) 29 true true rfl hg rfl ?_ (Below.refl _ _) (fun s h1 h2 => h1 rfl)
          simp only [execOp, e1]
          simp [go_sem, x0, x1, x2, x3, x4, y0, y1, y2, y3, y4]
        | 35, ho =>
          obtain rfl := Option.some.inj ho
          have hg := hA.new 29 (by decide) (by kernel_rfl)
          have e1 : a'.eval (.tmp 59) = .agg #[.int .i64 k1, .int .i64 o1, sV n1, .int .i64 v1, .slice p l1 c] := (sv_dst (l := _) rfl).symm.trans (hA.new 33 (by decide) (by kernel_rfl))
          have e2 : a'.eval (.tmp 60) = .agg #[.int .i64 k2, .int .i64 o2, sV n2, .int .i64 v2, .slice p2 l2 c2] := (sv_dst (l := _) rfl).symm.trans (hA.new 34 (by decide) (by kernel_rfl))
          refine GoesG.callW 23 #[.agg #[.int .i64 k1, .int .i64 o1, sV n1, .int .i64 v1, .slice p l1 c], .agg #[.int .i64 k2, .int .i64 o2, sV n2, .int .i64 v2, .slice p2 l2 c2]] 29 true true rfl hg rfl ?_ ((CP.out _ hA.rel).mono ?_)
          · simp [execOp, resolve, invoke, Deferred.ofValue, e1, e2]
            rfl
          · intro W1 hE
            exact ⟨_, rfl, hE, fun s h1 h2 => h1 rfl⟩
        | 36, ho =>
          obtain rfl := Option.some.inj ho
          have hg := hA.new 29 (by decide) (by kernel_rfl)
          have e1 : a'.eval (.tmp 58) = .bool q := (sv_dst (l := _) rfl).symm.trans (hA.new 32 (by decide) (by kernel_rfl))
          have e2 : a'.eval (.tmp 61) = .bool q := (sv_dst (l := _) rfl).symm.trans (hA.new 35 (by decide) (by kernel_rfl))
          refine GoesG.valueW (.bool true) 29 true true rfl hg rfl ?_ (Below.refl _ _) (fun s h1 h2 => h1 rfl)
          simp only [execOp, e1, e2]
          simp [go_sem, x0, x1, x2, x3, x4, y0, y1, y2, y3, y4]
        | 37, ho =>
          obtain rfl := Option.some.inj ho
          have e1 : a'.eval (.tmp 55) = .bool true := (sv_dst (l := _) rfl).symm.trans (hA.new 29 (by decide) (by kernel_rfl))
          have e2 : a'.eval (.tmp 62) = .bool true := (sv_dst (l := _) rfl).symm.trans (hA.new 36 (by decide) (by kernel_rfl))
          refine GoesG.value (.bool true) rfl ?_ (Below.refl _ _) (fun s h1 h2 => h1 rfl)
          simp only [execOp, e1, e2]
          simp [go_sem, x0, x1, x2, x3, x4, y0, y1, y2, y3, y4]
        | 38, ho =>
          obtain rfl := Option.some.inj ho
          have e1 : a'.eval (.tmp 63) = .bool true := (sv_dst (l := _) rfl).symm.trans (hA.new 37 (by decide) (by kernel_rfl))
          refine GoesG.value (.bool true) rfl ?_ (Below.refl _ _) (fun s h1 h2 => h1 rfl)
          simp only [execOp, e1]
          simp [go_sem, x0, x1, x2, x3, x4, y0, y1, y2, y3, y4]
        | 39, ho =>
          obtain rfl := Option.some.inj ho
          have hg := hA.new 38 (by decide) (by kernel_rfl)
          refine GoesG.callW 8 #[] 38 true true rfl hg rfl ?_ ((CA.out _).mono ?_)
          · simp [execOp, resolve, invoke, Deferred.ofValue]
            rfl
          · intro W1 hE
            exact ⟨_, rfl, hE, fun s h1 h2 => h1 rfl⟩
        | 40, ho =>
          obtain rfl := Option.some.inj ho
          have e1 : a'.eval (.tmp 64) = .bool true := (sv_dst (l := _) rfl).symm.trans (hA.new 38 (by decide) (by kernel_rfl))
          have e2 : a'.eval (.tmp 65) = .bool true := (sv_dst (l := _) rfl).symm.trans (hA.new 39 (by decide) (by kernel_rfl))
          refine GoesG.value (.bool true) rfl ?_ (Below.refl _ _) (fun s h1 h2 => h1 rfl)
          simp only [execOp, e1, e2]
          simp [go_sem, x0, x1, x2, x3, x4, y0, y1, y2, y3, y4]
        | 41, ho =>
          obtain rfl := Option.some.inj ho
          have e1 : a'.eval (.tmp 66) = .bool true := (sv_dst (l := _) rfl).symm.trans (hA.new 40 (by decide) (by kernel_rfl))
          refine GoesG.value (.bool true) rfl ?_ (Below.refl _ _) (fun s h1 h2 => h1 rfl)
          simp only [execOp, e1]
          simp [go_sem, x0, x1, x2, x3, x4, y0, y1, y2, y3, y4]
        | i + 42, ho => cases ho
      · intro vs W hvs hG hΦ
        obtain ⟨u0, u1, u2, u3, u4, u5, u6, u7, u8, u9, u10, u11, u12, u13, u14, u15, u16, u17, u18, u19, u20, u21, u22, u23, u24, u25, u26, u27, u28, u29, u30, u31, u32, u33, u34, u35, u36, u37, u38, u39, u40, u41, rfl⟩ := n42 vs hvs
        have hu : u41 = .bool true := hΦ 41 (by decide)
        subst hu
        have HG := Lib.hid hG
        clear hΦ hG hvs
        simp only [putAll, Act.put, List.setIfInBounds_toArray, List.set_cons_succ, List.set_cons_zero]
        go_wp2
        go_ret
        exact ⟨rfl, Ext.trans HX.out HG.out⟩

end Go.Proofs.YtgkalcboklhdgaaGreatDoor

namespace Go.Proofs.YtgkalcboklhdgaaGreatDoor.exprCheck
open Go.ChangeShapes Go.WideShapes Go.ChangeAt Go.RowKit
open Go.ChangeMaps (open_string shut_string)
set_option linter.unusedVariables false

theorem own : ownKnob Tryz.prog.godebug = none := by kernel_rfl
theorem laidOut : laidOutB Tryz.prog = true := by kernel_rfl
/-- the cells of a datum of plain values -/
def flat : Nat → DataW Unit → List Value
  | _, .lit l => [l.value]
  | n + 1, .agg ps => ps.flatMap (flat n)
  | _, _ => []
/-- a world for the witness: the settled one, the listed tables holding what the text lays -/
def lay (d : DataW Unit) : Obj → Obj
  | .cells _ t frozen => .cells (flat 4 d).toArray t frozen
  | o => o
noncomputable def laidWorld (os : Os) : World :=
  { World.holding Tryz.prog os ⟨#[], #[], []⟩ with heap := ((((World.holding Tryz.prog os ⟨#[], #[], []⟩).heap.modify 1 (lay Rows.laid_math_bits_deBruijn32tab)).modify 2 (lay Rows.laid_math_bits_deBruijn64tab)).modify 0 (lay Rows.laid_internal_strconv_uint64pow10)) }
theorem laid_met (os : Os) : laidMet Tryz.prog Rows.exprCheckRow.laid ((laidWorld os).forCall (fun _ _ => 0) ⟨#[], #[.agg #[.int .i64 0, .int .i64 0, .string ByteArray.empty, .int .i64 0, .slice none 0 0], .agg #[.int .i64 0, .int .i64 0, .string ByteArray.empty, .int .i64 0, .slice none 0 0]], []⟩).memory :=
  laidMet_of_run' 8 (by kernel_rfl) (by kernel_rfl)
theorem reads (os : Os) {H : Type} (enc : TypeId × Value → H) : ∃ places, DataW.whole enc Tryz.prog ((laidWorld os).forCall (fun _ _ => 0) ⟨#[], #[.agg #[.int .i64 0, .int .i64 0, .string ByteArray.empty, .int .i64 0, .slice none 0 0], .agg #[.int .i64 0, .int .i64 0, .string ByteArray.empty, .int .i64 0, .slice none 0 0]], []⟩).memory Tryz.f4.params.toList Rows.exprCheckSpec.vars false (#[.agg #[.int .i64 0, .int .i64 0, .string ByteArray.empty, .int .i64 0, .slice none 0 0], .agg #[.int .i64 0, .int .i64 0, .string ByteArray.empty, .int .i64 0, .slice none 0 0]] : Array Value).toList 8 = some ([.agg [.lit (.int .i64 0), .lit (.int .i64 0), .lit (.string []), .lit (.int .i64 0), .nil], .agg [.lit (.int .i64 0), .lit (.int .i64 0), .lit (.string []), .lit (.int .i64 0), .nil]], [], places) :=
  ⟨[], by kernel_rfl⟩
theorem tab (W : World) (h : laidMetH Tryz.prog Rows.exprCheckRow.laid W) : TabW W := by
  have h1 : laidMet Tryz.prog Rows.exprCheckRow.laid W := h
  exact Lib.tabIs_of_head (g := 0) (t := 141) (e := 123) (n := 20) (by kernel_rfl) (by kernel_rfl) Tryz.underlying141 Tryz.underlying123 (by kernel_rfl) (by kernel_rfl) h1.tail.tail
set_option maxRecDepth 100000 in
theorem contract (H : Type) (enc : TypeId × Value → H) (W : World) (base : Nat) (args : Array Value) (ds gs : List (DataW H)) (before : List MemPlace)
    (hval0 : ∀ (j : Nat) t v, Tryz.f4.params[j]? = some t → args[j]? = some v → Value.okWide Tryz.prog W .any base t v)
    (hW : DataW.Whole enc Tryz.prog Tryz.f4.params.toList Rows.exprCheckSpec.vars false W args.toList ds gs before) (hz : (DataW.weightsEach Tryz.prog (Tryz.f4.params.toList ++ (OpenSpec.ofChange Rows.exprCheckSpec).bare.plain.varTypes Tryz.prog) (ds ++ gs)).all (· ≤ reachBytes) = true) (hL : laidMetH Tryz.prog Rows.exprCheckRow.laid W) :
    Calls Tryz.prog 4 args W fun e W' => ∃ v, e = .returned v ∧ Rows.exprCheckSpec.post enc Tryz.prog Tryz.f4 false true false false W args v W' := by
  have hval := hval0
  have hW' := hW
  obtain ⟨p, q, hA0, hV, rfl, hfz, hnd⟩ := hW
  have hA : DataW.TrodAll enc Tryz.prog W 0 (fun _ => true) true Tryz.f4.params.toList args.toList ds p := hA0
  rw [Tryz.params4] at hA hval
  obtain ⟨v0, vs0, d0, ds0, p0, q0, hargs, rfl, rfl, h0, r0⟩ := trodAll_cons hA
  obtain ⟨v1, vs1, d1, ds1, p1, q1, rfl, rfl, rfl, h1, r1⟩ := trodAll_cons r0
  obtain ⟨rfl, rfl, rfl⟩ := trodAll_nil r1
  obtain rfl : args = #[v0, v1] := by cases args; simp_all
  obtain ⟨rfl, rfl⟩ := trodVars_none hV
  have k0 := h0
  have lt0 : ∀ x ∈ p0, x.block < W.heap.size := by obtain ⟨m, hm⟩ := k0; exact DataW.trod_lt m _ _ _ hm
  obtain ⟨e0, pe0, ce0, rfl, w0⟩ := open_ex (hval 0 24 v0 rfl rfl) h0 (fun n hn => by have := List.all_eq_true.1 hz n (DataW.weights_mem_each (j := 0) rfl rfl n hn); simpa using this)
  have k1 := h1
  have lt1 : ∀ x ∈ p1, x.block < W.heap.size := by obtain ⟨m, hm⟩ := k1; exact DataW.trod_lt m _ _ _ hm
  obtain ⟨e1, pe1, ce1, rfl, w1⟩ := open_ex (hval 1 24 v1 rfl rfl) h1 (fun n hn => by have := List.all_eq_true.1 hz n (DataW.weights_mem_each (j := 1) rfl rfl n hn); simpa using this)
  clear hA0 hval0 hz
  refine (exprCheck_walk e0 pe0 ce0 e1 pe1 ce1 W w0 w1 (tab W hL)).mono fun W' bel => ?_
  exact ⟨_, rfl, _, _, _, [], _, [], hW', trodAll_mk1 (shut_bool Tryz.underlying4 _), (trodAll_cons_mk (Below.trod laidOut (by kernel_rfl) (of_decide_eq_true (by kernel_rfl)) k0 bel lt0) (trodAll_cons_mk (Below.trod laidOut (by kernel_rfl) (of_decide_eq_true (by kernel_rfl)) k1 bel lt1) trodAll_mk0)), rfl, bel.frame _, fun h => by cases h⟩

set_option maxRecDepth 100000 in
theorem lifted (os : Os) (started : os.Started) (H : Type) (enc : TypeId × Value → H) (F : Stop.Interp) :
    ReturnsInHanded {} Tryz.checked os 4 .any ((OpenSpec.ofChange Rows.exprCheckSpec).preRow enc Tryz.prog Tryz.f4 Rows.exprCheckRow.domain false Rows.exprCheckRow.laid) (((OpenSpec.ofChange Rows.exprCheckSpec).at F).post enc Tryz.prog Tryz.f4 false true false false) := by
  obtain ⟨places, hx⟩ := reads os enc
  refine returnsInHanded_of_row (C := Tryz.checked) (s := OpenSpec.ofChange Rows.exprCheckSpec) own started (by kernel_rfl) Tryz.func4
    (witness_row_at (enc := enc) (C := Tryz.checked) false (laidWorld os) #[.agg #[.int .i64 0, .int .i64 0, .string ByteArray.empty, .int .i64 0, .slice none 0 0], .agg #[.int .i64 0, .int .i64 0, .string ByteArray.empty, .int .i64 0, .slice none 0 0]] rfl (by kernel_rfl) (by kernel_rfl) (by kernel_rfl)
      (OpenSpec.preRow_of_cond 8 hx (by kernel_rfl) (fun k hk => by cases hk) (by kernel_rfl) (laid_met os))) ?_
  intro W base args ds gs before hval hW _ _ hz hL hsh _
  exact contract H enc W base args ds gs before hval hW hz hL

theorem said : Rows.ExprCheckSaid :=
  OpenClaim.holds_of_cond 4 Tryz.f4 rfl rfl rfl rfl rfl rfl rfl ⟨rfl, rfl, rfl, rfl, rfl⟩ rfl rfl rfl rfl rfl (by kernel_rfl) Tryz.func4 (by kernel_rfl)
    (of_decide_eq_true (by kernel_rfl)) (by unfold Func.isWrapper; first | (rw [if_pos (by decide +kernel)]; kernel_rfl) | (rw [if_neg (by decide +kernel)]; exact ⟨rfl, rfl⟩))
    (fun os started H enc _ F => by rw [OpenClaim.pre_eq_preRow]; exact lifted os started H enc F)

theorem plain (f : FuncId) (fn : Func) (hf : Tryz.pinned.checked.prog.funcNamed "nursery/nurserylaw09.ExprCheck" = some f) (hfn : Tryz.pinned.checked.prog.funcs[f]? = some fn) :
    false = Tryz.pinned.checked.prog.looks [] ∧ ∀ (j : Nat) t, fn.params[j]? = some t → Tryz.pinned.checked.prog.wantsStandIn t = false := by
  obtain rfl : f = 4 := Option.some.inj ((show Tryz.prog.funcNamed "nursery/nurserylaw09.ExprCheck" = some 4 by kernel_rfl).symm.trans hf) |>.symm
  obtain rfl : fn = Tryz.f4 := (Option.some.inj (Tryz.func4.symm.trans hfn)).symm
  refine ⟨by kernel_rfl, fun j t ht => ?_⟩
  rw [Tryz.params4] at ht
  rcases j with _ | _ | j
  · obtain rfl : t = 24 := by simpa using ht.symm
    exact (show Tryz.prog.wantsStandIn 24 = false by kernel_rfl)
  · obtain rfl : t = 24 := by simpa using ht.symm
    exact (show Tryz.prog.wantsStandIn 24 = false by kernel_rfl)
  · simp at ht

/-- the statement -/
theorem proved : Rows.ExprCheckCardSaid :=
  Claim7.holds_tied_plain_at .later [] _ _ _ _ said (fun _ h => by cases h) (by kernel_rfl) (fun _ h => by cases h) exprCheck_row_tie rfl ⟨rfl, rfl⟩ (by kernel_rfl) rfl plain (by kernel_rfl)
#print axioms proved
end Go.Proofs.YtgkalcboklhdgaaGreatDoor.exprCheck

