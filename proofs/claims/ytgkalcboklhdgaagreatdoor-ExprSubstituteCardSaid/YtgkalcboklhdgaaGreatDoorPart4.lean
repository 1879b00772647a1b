/- Lemmas and walks for the statements of this seat, part 4, merged from smaller texts: Check.; The reference's Operate.; The reference's Operate.; The type and the value of an expression, plain.; Slices of integers (the part of XInts that knows no function).; Slices of integers of the call's own, to which it appends (the part of XApp that knows no function).; expr's typed.; The reference's typeOf.; Type, both.; What has a type has values in range.; expr's value.; expr's value: the walk.; The reference's eval.; Eval, both.; Expressions in blocks of a class; rows of expressions that a call owns.; slices.Clone of expressions; literals.; Literals.; The constant that an expression is; Fold's function. -/
import Derived.Test.YtgkalcboklhdgaaGreatDoorRows
import Derived.Lib.AppendStr
import Derived.Deep.OwnRows
import Derived.Lib.SmallJoins
import Derived.Maps.AppendAt
import Derived.OwnWalk
import Derived.Laws.OwnMore
import Derived.Lib.SliceRun
import Derived.Test.YtgkalcboklhdgaaGreatDoorPart3
import Derived.Test.YtgkalcboklhdgaaGreatDoorPart2
import Derived.Test.YtgkalcboklhdgaaGreatDoorPart1

namespace Go.Proofs.YtgkalcboklhdgaaGreatDoor
open Go.RowKit
set_option linter.unusedVariables false
set_option linter.unusedSimpArgs false
attribute [local go_sem] Oper.semAt_some

theorem cells_own {X Y : World} {row : Option Nat} {B : Nat} {c : Array Value} {t : TypeId} {f : Nat × Nat} (h : X.heap[B]? = some (.cells c t f)) (hg : X.grownBy Y row) (hr : ∀ r, row = some r → ∃ o : Obj, X.heap[r]? = some o ∧ o.isCells = false) : Y.heap[B]? = some (.cells c t f) :=
  (hg.block B (lt_of_block h) (fun e => by obtain ⟨o, ho, hc⟩ := hr B e.symm; rw [h] at ho; cases ho; cases hc)).trans h
theorem keepsFrom_ext {B : Nat} {W W' : World} (h : Below W.heap.size W W') : KeepsFrom B W W' := ⟨h.size, fun i o _ hi _ => (h.block i (lt_of_block hi)).trans hi⟩

set_option maxRecDepth 100000 in
set_option maxHeartbeats 4000000 in
theorem Check_any (e : Ex) (p : Option Addr) (c : Nat) (w : World) (hA : Ex.At w p e) : Gives Tryz.prog 17 #[e.val p c] w (.int .i64 e.chk) := by
  have C := Lib.hid (fun W g h1 h2 h3 => show Calls _ _ #[.agg #[.int .i64 e.kind, .int .i64 e.op, sV e.name, .int .i64 e.value, .slice p e.args.length c], _, _] _ _ from measure_any w e.size e (Nat.le_refl _) p c 0 1 g 1 W rfl hA h1 h2 h3 (by omega) (by omega) (by omega))
  obtain ⟨d, hd1, hd2, hd3, hP⟩ := PEx.of_at c hA
  have HC := Lib.hid (show e.chk = if 100 < e.size then 4 else if 12 < e.height then 22 else PEx.ferr d.pre by rw [PEx.ferr_pre, hd1]; rfl)
  have HST := Lib.hid (fun n B W h1 h2 h3 => show SeqStopsK Fence.wide n Tryz.prog 65 #[.pointer (some ⟨B, 0, none⟩)] (fun x : Pt => #[x.1.val]) (Kx w.heap.size) (fun ys => ys.map (·.1) = d.pre) (fun ys => ys.map (·.1) <+: d.pre) d.pre.length W from
    parts_stops Fence.wide rfl n trivial trivial rfl B w.heap.size d W h1 h2 h3)
  rw [hd2, hd3, hd1] at HST
  have HP := Lib.hid hP
  have hle := Ex.height_le e
  unfold Gives Ex.val
  generalize e.height = g1 at *
  generalize e.size = s1 at *
  generalize e.chk = r at *
  clear hd1 hP
  generalize e.kind = k1 at *
  generalize e.op = o1 at *
  generalize e.name = n1 at *
  generalize e.value = v1 at *
  generalize e.args.length = l1 at *
  obtain ⟨B, hB⟩ : ∃ B, B = w.heap.size := ⟨_, rfl⟩
  have HA2 := Lib.hid (show Ext w (((w.alloc (.cells #[.int .i64 k1, .int .i64 o1, sV n1, .int .i64 v1, .slice p l1 c] 24)).alloc (.cells #[.int .i64 0] 29)).alloc (numO 0)) from (((Below.refl _ w).alloc (Nat.le_refl _) _).alloc (by simp) _).alloc (by simp; omega) _)
  refine (callsIn_wide (n := 9)).1 ?_
  refine callsIn_of_wp_marks Tryz.func17 rfl trivial ?_ rfl
  simp only [Tryz.ntmps17, List.size_toArray, List.length_cons, List.length_nil, Nat.reduceAdd, Nat.reduceSub, Array.replicate_succ, Array.replicate_zero, List.push_toArray, List.append_toArray, List.nil_append, List.cons_append]
  gi_wp2_with (fail)
  refine ⟨trivial, callsIn_wide.2 ((C.out _ (w.heap.size + 1 + 1) HA2.out (by omega) (by
    have h := alloc_here ((w.alloc (.cells #[.int .i64 k1, .int .i64 o1, sV n1, .int .i64 v1, .slice p l1 c] 24)).alloc (.cells #[.int .i64 0] 29)) (numO 0)
    have e : ((w.alloc (.cells #[.int .i64 k1, .int .i64 o1, sV n1, .int .i64 v1, .slice p l1 c] 24)).alloc (.cells #[.int .i64 0] 29)).heap.size = w.heap.size + 1 + 1 := by simp
    rw [e] at h; exact h)).mono ?_)⟩
  rintro x W1 ⟨dp, m, rfl, hT, hm1, hr1, hle1, hgt1⟩
  have hsz2 : (((w.alloc (.cells #[.int .i64 k1, .int .i64 o1, sV n1, .int .i64 v1, .slice p l1 c] 24)).alloc (.cells #[.int .i64 0] 29)).alloc (numO 0)).heap.size = w.heap.size + 3 := by simp
  have hcn : W1.cell? ⟨w.heap.size + 1 + 1, 0, none⟩ = some (.int .i64 (m : Int)) := cell_of hT.here rfl
  have hW1 : Ext w W1 := Below.trans HA2.out (hT.below (by omega) (by rw [hsz2]; omega))
  have hbE : W1.heap[w.heap.size]? = some (.cells (exC k1 o1 n1 v1 p l1 c) tEx (0, 0)) := by
    rw [hT.other _ (by rw [hsz2]; omega) (by omega)]
    exact (Below.heap_alloc _ _ _ (by simp; omega)).trans ((Below.heap_alloc _ _ _ (by simp)).trans (alloc_here _ _))
  have hbR : W1.heap[w.heap.size + 1]? = some (.cells #[.int .i64 0] 29 (0, 0)) := by
    rw [hT.other _ (by rw [hsz2]; omega) (by omega)]
    have h := alloc_here (w.alloc (.cells #[.int .i64 k1, .int .i64 o1, sV n1, .int .i64 v1, .slice p l1 c] 24)) (.cells #[.int .i64 0] 29)
    rw [World.size_alloc] at h
    exact (Below.heap_alloc _ _ _ (by simp)).trans h
  have hz1 : w.heap.size + 3 ≤ W1.heap.size := by have := hT.size; rw [hsz2] at this; exact this
  have b0 : W1.cell? ⟨w.heap.size, 0, none⟩ = some (.int .i64 k1) := cell_of hbE rfl
  have b1 : W1.cell? ⟨w.heap.size, 1, none⟩ = some (.int .i64 o1) := cell_of hbE rfl
  have b2 : W1.cell? ⟨w.heap.size, 2, none⟩ = some (sV n1) := cell_of hbE rfl
  have b3 : W1.cell? ⟨w.heap.size, 3, none⟩ = some (.int .i64 v1) := cell_of hbE rfl
  have b4 : W1.cell? ⟨w.heap.size, 4, none⟩ = some (.slice p l1 c) := cell_of hbE rfl
  have cR : W1.cell? ⟨w.heap.size + 1, 0, none⟩ = some (.int .i64 0) := cell_of hbR rfl
  have fR : W1.frozen? ⟨w.heap.size + 1, 0, none⟩ = false := free_of hbR
  have HW1 := Lib.hid hW1
  have HbR := Lib.hid hbR
  clear hT hbE hbR hW1 hsz2 C HA2 hB
  clear B
  by_cases h100 : 100 < s1
  · have hm : 100 < m := hgt1 (by omega)
    have HZ := Lib.hid (show r = 4 by rw [HC.out, if_pos h100])
    have HF := Lib.hid (Below.setCell HW1.out (p := ⟨w.heap.size + 1, 0, none⟩) (show w.heap.size ≤ w.heap.size + 1 by omega) (.int .i64 4))
    have hc5 : (W1.setCell ⟨w.heap.size + 1, 0, none⟩ (.int .i64 4)).cell? ⟨w.heap.size + 1, 0, none⟩ = some (.int .i64 4) := World.cell?_setCell_same' _ _ _ (by rw [cR]; rfl)
    clear hle1 hgt1
    gi_wp2
    exact ⟨.int .i64 4, by simp [results, Tryz.f17, go_sem, hc5], by rw [HZ.out], HF.out⟩
  · obtain ⟨rfl, hdp⟩ := hle1 (by omega)
    by_cases h12 : 12 < g1
    · have HZ := Lib.hid (show r = 22 by rw [HC.out, if_neg h100, if_pos h12])
      have hd12 : 12 < dp := by omega
      have HF := Lib.hid (Below.setCell HW1.out (p := ⟨w.heap.size + 1, 0, none⟩) (show w.heap.size ≤ w.heap.size + 1 by omega) (.int .i64 22))
      have hc5 : (W1.setCell ⟨w.heap.size + 1, 0, none⟩ (.int .i64 22)).cell? ⟨w.heap.size + 1, 0, none⟩ = some (.int .i64 22) := World.cell?_setCell_same' _ _ _ (by rw [cR]; rfl)
      clear hgt1
      gi_wp2
      exact ⟨.int .i64 22, by simp [results, Tryz.f17, go_sem, hc5], by rw [HZ.out], HF.out⟩
    · have HZ := Lib.hid (show r = PEx.ferr d.pre by rw [HC.out, if_neg h100, if_neg h12])
      have hd12 : dp ≤ 12 := by omega
      have hq1 : decide ((100 : Int) < (s1 : Int)) = false := by simp; omega
      have hq2 : decide ((12 : Int) < (dp : Int)) = false := by simp; omega
      clear hgt1
      gi_wp2_with (fail)
      refine ⟨trivial, callsIn_wide.2 ((xparts_any _ _ _ _ _ _ _ _).mono ?_)⟩
      rintro x W3 ⟨B2, rfl, hb3, hE3⟩
      have hW3 : Ext w W3 := Ext.trans HW1.out hE3
      have hP3 := HP.out.low hW3.below
      have hbR3 : Boxed W3 (w.heap.size + 1) 29 (.int .i64 0) := (hE3.below.block _ (lt_of_block HbR.out)).trans HbR.out
      have hn3 : w.heap.size ≤ W3.heap.size := hW3.size
      have hz3 : w.heap.size + 3 ≤ W3.heap.size := Nat.le_trans hz1 hE3.size
      clear b0 b1 b2 b3 b4 cR fR hcn
      gi_wp2_with (fail)
      refine wpIn_rangeFunc_ownH rfl (by omega) (gf := 65) (lb := #[.pointer (some ⟨B2, 0, none⟩)]) rfl trivial (enters_fn Tryz.func65 (by kernel_rfl) rfl)
        (encs := fun x : Pt => #[(.agg #[.int .i64 x.1.er.kind, .int .i64 x.1.er.op, sV x.1.er.name, .int .i64 x.1.er.value, .slice x.1.ptr x.1.er.args.length x.1.cap])]) (HST.out 8 B2 W3 hn3 hb3 hP3) Kx.trans (Kx.putObj hn3) (Below.refl _ _) (fun _ => rfl)
        (fun ys W => (PEx.ferr (ys.map (·.1)) = 0 ∧ Boxed W (w.heap.size + 1) 29 (.int .i64 0)) ∧ Below w.heap.size w W)
        (fun cd ys W => (cd = .ret ∧ ∃ f, f ≠ 0 ∧ PEx.ferr (ys.map (·.1)) = f ∧ Boxed W (w.heap.size + 1) 29 (.int .i64 f)) ∧ Below w.heap.size w W)
        (OwnFrom.and (fun s X Y row hs hg hr => ⟨hs.1, boxed_own (w.heap.size + 1) 29 (fun (_ : Unit) => Value.int .i64 0) () X Y row hs.2 hg (fun r e => (hr r e).2)⟩) (ownFrom_below (Nat.le_refl _) hn3))
        (fun cd => OwnFrom.and (fun s X Y row hs hg hr => ⟨hs.1, by obtain ⟨f, h1, h2, h3⟩ := hs.2; exact ⟨f, h1, h2, boxed_own (w.heap.size + 1) 29 (fun (_ : Unit) => Value.int .i64 f) () X Y row h3 hg (fun r e => (hr r e).2)⟩⟩) (ownFrom_below (Nat.le_refl _) hn3))
        ⟨⟨rfl, hbR3⟩, hW3⟩
        (fun x a' W => ∃ Bx, W.heap[Bx]? = some (.cells (exC x.1.er.kind x.1.er.op x.1.er.name x.1.er.value x.1.ptr x.1.er.args.length x.1.cap) tEx (0, 0)) ∧ a' = { tmps := #[(.agg #[.int .i64 k1, .int .i64 o1, sV n1, .int .i64 v1, .slice p l1 c]), .pointer (some ⟨w.heap.size, 0, none⟩), .pointer (some ⟨w.heap.size + 1, 0, none⟩), .pointer (some ⟨w.heap.size + 1 + 1, 0, none⟩), .int .i64 (dp : Int), .pointer (some ⟨Bx, 0, none⟩), undef, (.agg #[.int .i64 k1, .int .i64 o1, sV n1, .int .i64 v1, .slice p l1 c]), .int .i64 (dp : Int), .int .i64 (s1 : Int), .bool false, .int .i64 (dp : Int), .bool false, (.agg #[.int .i64 k1, .int .i64 o1, sV n1, .int .i64 v1, .slice p l1 c]), .func (.func 65) #[] #[.pointer (some ⟨B2, 0, none⟩)], (.agg #[.int .i64 x.1.er.kind, .int .i64 x.1.er.op, sV x.1.er.name, .int .i64 x.1.er.value, .slice x.1.ptr x.1.er.args.length x.1.cap]), undef, undef, undef, undef, undef], defers := [] })
        (fun x a' _ X Y row hs hg hr => by obtain ⟨Bx, h1, h3⟩ := hs; exact ⟨Bx, cells_own h1 hg (fun r e => (hr r e).2), h3⟩)
        ?assign ?body ?done ?stop
      case assign =>
        rintro l ys x W K ⟨⟨h1, h2⟩, h3⟩ hK
        have hw := h3.size
        generalize x.1.er.kind = k2 at *
        generalize x.1.er.op = o2 at *
        generalize x.1.er.name = n2 at *
        generalize x.1.er.value = v2 at *
        generalize x.1.er.args.length = l2 at *
        generalize x.1.ptr = q2 at *
        generalize x.1.cap = c2 at *
        gi_wp2
        exact hK _ _ ((KeepsOthers.alloc _ _).from _) (Kx.of_ext ((Below.refl _ W).alloc (Nat.le_refl _) _) hw) ⟨⟨h1, h2.alloc _⟩, h3.alloc hw _⟩ ⟨W.heap.size, alloc_here _ _, rfl⟩
      case body =>
        rintro l ys x a' W hl ⟨rr, hr⟩ ⟨⟨h1, h2⟩, h3⟩ ⟨Bx, hbx, rfl⟩ hlt
        have CK := Lib.hid (fun W => show Gives _ _ #[(.agg #[.int .i64 x.1.er.kind, .int .i64 x.1.er.op, sV x.1.er.name, .int .i64 x.1.er.value, .slice x.1.ptr x.1.er.args.length x.1.cap])] _ _ from check_any x.1.er x.1.ptr x.1.cap W x.2)
        have hw := h3.size
        have HF := Lib.hid (show ∀ f, pc x.1.er = f → PEx.ferr ((ys ++ [x]).map (·.1)) = f from fun f hf => by rw [List.map_append, PEx.ferr_app, h1]; simp [PEx.ferr, hf]; exact fun h => h.symm)
        generalize pc x.1.er = f1 at *
        generalize x.1.er.kind = k2 at *
        generalize x.1.er.op = o2 at *
        generalize x.1.er.name = n2 at *
        generalize x.1.er.value = v2 at *
        generalize x.1.er.args.length = l2 at *
        generalize x.1.ptr = q2 at *
        generalize x.1.cap = c2 at *
        have b0 : W.cell? ⟨Bx, 0, none⟩ = some (.int .i64 k2) := cell_of hbx rfl
        have b1 : W.cell? ⟨Bx, 1, none⟩ = some (.int .i64 o2) := cell_of hbx rfl
        have b2 : W.cell? ⟨Bx, 2, none⟩ = some (sV n2) := cell_of hbx rfl
        have b3 : W.cell? ⟨Bx, 3, none⟩ = some (.int .i64 v2) := cell_of hbx rfl
        have b4 : W.cell? ⟨Bx, 4, none⟩ = some (.slice q2 l2 c2) := cell_of hbx rfl
        by_cases hf : f1 = 0
        · subst hf
          gi_wp2_with (fail)
          refine ⟨trivial, (CallsIn.inRound l (callsIn_wide.2 (CK.out W))).mono ?_⟩
          rintro e W4 ⟨rfl, hE4⟩
          gi_wp2
          exact ⟨keepsFrom_ext hE4, Kx.of_ext hE4 hw, ⟨HF.out 0 rfl, (hE4.block _ h2.lt).trans h2⟩, h3.trans (hE4.mono hw)⟩
        · have hg1 : (f1 == 0) = false := by simpa using hf
          have hg2 : (f1 != 0) = true := by simpa using hf
          have HNE := Lib.hid hf
          clear hf
          gi_wp2_with (fail)
          refine ⟨trivial, (CallsIn.inRound l (callsIn_wide.2 (CK.out W))).mono ?_⟩
          rintro e W4 ⟨rfl, hE4⟩
          have h24 : Boxed W4 (w.heap.size + 1) 29 (.int .i64 0) := (hE4.block _ h2.lt).trans h2
          have cS := h24.cell
          have fS := h24.frozen
          gi_wp2
          exact ⟨(keepsFrom_ext hE4).trans ((KeepsOthers.setCell _ _ _).from _), ⟨rfl, f1, HNE.out, HF.out f1 rfl, h24.set _⟩, (h3.trans (hE4.mono hw)).setCell (p := ⟨w.heap.size + 1, 0, none⟩) (by simp) _⟩
      case done =>
        rintro D ys W hD hys ⟨⟨h1, h2⟩, h3⟩ hK
        have HZ2 := Lib.hid (show r = 0 by rw [HZ.out, ← h1]; exact congrArg PEx.ferr hys.symm)
        have cS := h2.cell
        have fS := h2.frozen
        clear h1 hys
        gi_wp2
        have hK' := (KeepsOthers.setCell W ⟨w.heap.size + 1, 0, none⟩ (.int .i64 0)).same D _ hK rfl
        refine ⟨by simp, .inl ⟨_, _, rfl, run_takeDeferred hK', ?_⟩⟩
        have hc5 := cell_kept (World.cell?_setCell_same' W ⟨w.heap.size + 1, 0, none⟩ (.int .i64 0) (by rw [cS]; rfl)) (grownBy_putObj' _ D (.deferred none)) (fun r e => by cases e; exact ⟨_, hK', rfl⟩)
        refine ⟨.int .i64 0, ?_, by rw [HZ2.out], (h3.setCell (p := ⟨w.heap.size + 1, 0, none⟩) (by simp) _).trans (belowK_b (w := w) (Nat.le_refl _) _ D _ _ (by omega) hK' rfl rfl)⟩
        simp [results, Tryz.f17, go_sem, hc5]
      case stop =>
        rintro D cd ys W hD hys ⟨⟨rfl, f, hf, h1, h2⟩, h3⟩ hK
        have HZ2 := Lib.hid (show r = f by
          rw [HZ.out]
          obtain ⟨rest, hrest⟩ := hys
          rw [← hrest, PEx.ferr_app, h1, if_pos hf])
        have cS := h2.cell
        clear h1 hys
        gi_wp2
        refine ⟨by simp, .inl ⟨_, _, rfl, run_takeDeferred hK, ?_⟩⟩
        have hc5 := cell_kept cS (grownBy_putObj' _ D (.deferred none)) (fun r e => by cases e; exact ⟨_, hK, rfl⟩)
        refine ⟨.int .i64 f, ?_, by rw [HZ2.out], h3.trans (belowK_b (w := w) (Nat.le_refl _) W D _ _ (by omega) hK rfl rfl)⟩
        simp [results, Tryz.f17, go_sem, hc5]

end Go.Proofs.YtgkalcboklhdgaaGreatDoor

namespace Go.Proofs.YtgkalcboklhdgaaGreatDoor
open Go.RowKit
set_option linter.unusedVariables false
set_option linter.unusedSimpArgs false

/-- what operator k makes of two numbers, if it is in range -/
def opE (k x y : Int) : Int × Int := if (opR k x y).2 ≠ 0 then (0, (opR k x y).2) else if inM (opR k x y).1 then ((opR k x y).1, 0) else (0, 14)

theorem mulBig_comm (x y : Int) (hx : inM x) (hy : inM y) : mulBig y x = mulBig x y := by
  have h1 := mul_big x y
  have h2 := mul_big y x
  have h3 := mul_bd x y hx hy
  have h4 := mul_bd y x hy hx
  rw [Int.mul_comm y x] at h2 h4
  cases ha : mulBig x y <;> cases hb : mulBig y x
  · rfl
  · exact absurd (h3 ha) (h2 hb)
  · exact absurd (h4 hb) (h1 ha)
  · rfl

end Go.Proofs.YtgkalcboklhdgaaGreatDoor

namespace Go.Proofs.YtgkalcboklhdgaaGreatDoor
open Go.RowKit
set_option linter.unusedVariables false
set_option linter.unusedSimpArgs false

theorem opE_0 {k x y r : Int} (h : opR k x y = (r, 0)) (hr : inM r) : opE k x y = (r, 0) := by simp [opE, h, hr]
theorem opE_e {k x y r e : Int} (h : opR k x y = (r, e)) (he : e ≠ 0) : opE k x y = (0, e) := by simp [opE, h, he]
theorem opE_o {k x y r : Int} (h : opR k x y = (r, 0)) (hr : ¬ inM r) : opE k x y = (0, 14) := by simp [opE, h, hr]
theorem inM_01 (b : Bool) : inM (if b then 1 else 0) := by cases b <;> decide
end Go.Proofs.YtgkalcboklhdgaaGreatDoor

namespace Go.Proofs.YtgkalcboklhdgaaGreatDoor
open Go.RowKit
set_option linter.unusedVariables false
set_option linter.unusedSimpArgs false
open Ex

/-- what a function yields at the elements of a list: the first error, or the numbers -/
def mapE (f : Ex → Int × Int) : List Ex → Int × List Int
  | [] => (0, [])
  | e :: es => if (f e).2 ≠ 0 then ((f e).2, []) else ((mapE f es).1, (f e).1 :: (mapE f es).2)
theorem mapE_take (f : Ex → Int × Int) (ts : List Ex) (j : Nat) (h : j < ts.length) (h0 : (mapE f (ts.take j)).1 = 0) :
    ((f ts[j]).2 ≠ 0 → (mapE f ts).1 = (f ts[j]).2) ∧ ((f ts[j]).2 = 0 → mapE f (ts.take (j + 1)) = (0, (mapE f (ts.take j)).2 ++ [(f ts[j]).1])) := by
  induction ts generalizing j with
  | nil => simp at h
  | cons t ts ih =>
    cases j with
    | zero =>
      constructor
      · intro h1; simp only [List.getElem_cons_zero] at h1 ⊢; simp [mapE, h1]
      · intro h1; simp only [List.getElem_cons_zero] at h1; simp [mapE, h1]
    | succ j =>
      have hj : j < ts.length := by simpa using h
      rw [List.take_succ_cons, mapE] at h0
      by_cases ht : (f t).2 = 0
      · rw [if_neg (by simp [ht])] at h0
        obtain ⟨i1, i2⟩ := ih j hj h0
        simp only [List.getElem_cons_succ, List.take_succ_cons]
        constructor
        · intro h1; simp only [mapE, ht, ne_eq, not_true_eq_false, if_false]; exact i1 h1
        · intro h1
          have := i2 h1
          simp only [mapE, ht, ne_eq, not_true_eq_false, if_false, List.cons_append]
          rw [this]
      · rw [if_pos ht] at h0
        exact absurd h0 ht
theorem mapE_len (f : Ex → Int × Int) (ts : List Ex) (h : (mapE f ts).1 = 0) : (mapE f ts).2.length = ts.length := by
  induction ts with
  | nil => rfl
  | cons t ts ih =>
    rw [mapE] at h ⊢
    by_cases ht : (f t).2 = 0
    · rw [if_neg (by simp [ht])] at h ⊢
      simp [ih h]
    · rw [if_pos ht] at h; exact absurd h ht

/-- the type of a part whose arguments have the types l -/
def tyN (bs : List Bn) (k o : Int) (n : List UInt8) (l : List Int) : Int × Int :=
  if k = 1 then (1, 0) else if k = 2 then (if fdIs bs n then ((fdB bs n).type, 0) else (0, 7)) else
  if k = 3 then (if l.getD 0 0 = (if o = 2 then 2 else 1) then (if o = 2 then 2 else 1, 0) else (0, 15)) else
  if l.getD 0 0 = l.getD 1 0 ∧ ((opOf o).arg = 0 ∨ l.getD 0 0 = (opOf o).arg) then ((opOf o).res, 0) else (0, 15)
mutual
/-- the type of an expression, and its error -/
def Ex.ty (bs : List Bn) : Ex → Int × Int
  | .mk k o n _ ts => if (Ex.tys bs ts).1 ≠ 0 then (0, (Ex.tys bs ts).1) else tyN bs k o n (Ex.tys bs ts).2
def Ex.tys (bs : List Bn) : List Ex → Int × List Int
  | [] => (0, [])
  | e :: es => if (e.ty bs).2 ≠ 0 then ((e.ty bs).2, []) else ((Ex.tys bs es).1, (e.ty bs).1 :: (Ex.tys bs es).2)
end
theorem tys_map (bs : List Bn) (ts : List Ex) : Ex.tys bs ts = mapE (Ex.ty bs) ts := by
  induction ts with
  | nil => rfl
  | cons t ts ih => simp only [Ex.tys, mapE, ih]
/-- the value of a part whose arguments have the values l -/
def evN (bs : List Bn) (k o : Int) (n : List UInt8) (v : Int) (l : List Int) : Int × Int :=
  if k = 1 then (v, 0) else if k = 2 then ((fdB bs n).value, 0) else
  if k = 3 then (if o = 2 then 1 - l.getD 0 0 else - l.getD 0 0, 0) else opE o (l.getD 0 0) (l.getD 1 0)
mutual
/-- the value of an expression, and its error -/
def Ex.ev (bs : List Bn) : Ex → Int × Int
  | .mk k o n v ts => if (Ex.evs bs ts).1 ≠ 0 then (0, (Ex.evs bs ts).1) else evN bs k o n v (Ex.evs bs ts).2
def Ex.evs (bs : List Bn) : List Ex → Int × List Int
  | [] => (0, [])
  | e :: es => if (e.ev bs).2 ≠ 0 then ((e.ev bs).2, []) else ((Ex.evs bs es).1, (e.ev bs).1 :: (Ex.evs bs es).2)
end
theorem evs_map (bs : List Bn) (ts : List Ex) : Ex.evs bs ts = mapE (Ex.ev bs) ts := by
  induction ts with
  | nil => rfl
  | cons t ts ih => simp only [Ex.evs, mapE, ih]

/-- a valid part, and valid arguments -/
theorem fe_mk {k o : Int} {n : List UInt8} {v : Int} {ts : List Ex} (h : (Ex.mk k o n v ts).fe = 0) : pc' k o n v ts.length = 0 ∧ fes ts = 0 := by
  simp only [Ex.fe] at h
  by_cases hp : pc' k o n v ts.length = 0
  · rw [if_neg (by simp [hp])] at h; exact ⟨hp, h⟩
  · rw [if_pos hp] at h; exact absurd h hp
theorem fes_get {ts : List Ex} (h : fes ts = 0) (j : Nat) (hj : j < ts.length) : (ts[j]).fe = 0 := by
  induction ts generalizing j with
  | nil => simp at hj
  | cons t ts ih =>
    rw [fes] at h
    by_cases ht : t.fe = 0
    · rw [if_neg (by simp [ht])] at h
      cases j with
      | zero => exact ht
      | succ j => exact ih h j (by simpa using hj)
    · rw [if_pos ht] at h; exact absurd h ht
/-- the kinds of valid parts -/
theorem pc_zero {k o : Int} {n : List UInt8} {v : Int} {m : Nat} (h : pc' k o n v m = 0) :
    (k = 1 ∧ o = 0 ∧ n = [] ∧ m = 0 ∧ 0 ≤ v ∧ v ≤ 1099511627776) ∨ (k = 2 ∧ o = 0 ∧ v = 0 ∧ m = 0 ∧ isNm n = true) ∨
    (k = 3 ∧ n = [] ∧ v = 0 ∧ m = 1 ∧ (o = 1 ∨ o = 2)) ∨ (k = 4 ∧ n = [] ∧ v = 0 ∧ m = 2 ∧ 3 ≤ o ∧ o ≤ 15) := by
  revert h
  refine pc_ind (Q := fun k o n v m r => r = 0 → (k = 1 ∧ o = 0 ∧ n = [] ∧ m = 0 ∧ 0 ≤ v ∧ v ≤ 1099511627776) ∨ (k = 2 ∧ o = 0 ∧ v = 0 ∧ m = 0 ∧ isNm n = true) ∨ (k = 3 ∧ n = [] ∧ v = 0 ∧ m = 1 ∧ (o = 1 ∨ o = 2)) ∨ (k = 4 ∧ n = [] ∧ v = 0 ∧ m = 2 ∧ 3 ≤ o ∧ o ≤ 15)) ?_ ?_ ?_ ?_ ?_ ?_ ?_ ?_ ?_ ?_ ?_ ?_ ?_ ?_ ?_ ?_ ?_ ?_ ?_ ?_ ?_ ?_ ?_ ?_ ?_ k o n v m
  all_goals first
    | (intro a1 a2 a3 a4 a5 h; exact absurd h (by decide))
    | (intro a1 a2 a3 a4 h; exact absurd h (by decide))
    | (intro a1 a2 a3 h; exact absurd h (by decide))
    | (intro a1 a2 h; exact absurd h (by decide))
    | (intro a1 a2 a3 a4 a5 a6 h; exact absurd h (by decide))
    | (intro v h1 h2 _; exact .inl ⟨rfl, rfl, rfl, rfl, by omega, by omega⟩)
    | (intro n h1 _; exact .inr (.inl ⟨rfl, rfl, rfl, rfl, h1⟩))
    | (intro _ _; exact .inr (.inr (.inl ⟨rfl, rfl, rfl, rfl, by omega⟩)))
    | (intro o h1 h2 _; exact .inr (.inr (.inr ⟨rfl, rfl, rfl, rfl, by omega, by omega⟩)))

end Go.Proofs.YtgkalcboklhdgaaGreatDoor

namespace Go.Proofs.YtgkalcboklhdgaaGreatDoor
open Go.RowKit
set_option linter.unusedVariables false

/-- a slice of integers that came in -/
def IsRow (k : IntKind) (w : World) (a : Option Addr) (len cap : Nat) (zs : List Int) : Prop :=
  (a = none ∧ len = 0 ∧ cap = 0 ∧ zs = []) ∨
  ∃ x, a = some x ∧ len ≤ cap ∧ cap ≤ maxLen ∧ zs.length = cap ∧ (∀ i, i < zs.length → w.cell? (x.add i) = some (.int k (zs.getD i 0))) ∧ ∀ n ∈ zs, (Lit.int k n).wf = true

/-- the slice at a holds the integers l -/
def IntsAt (w : World) (a : Option Addr) (l : List Int) : Prop := ∀ i (h : i < l.length), ∃ b off, a = some ⟨b, off, none⟩ ∧ w.cell? ⟨b, off + i, none⟩ = some (.int .i64 l[i])
theorem cell_lt {w : World} {a : Addr} {v : Value} (h : w.cell? a = some v) : a.block < w.heap.size := by
  unfold World.cell? at h
  split at h
  · rename_i hx; exact lt_of_block hx
  · cases h
theorem IntsAt.below {w W : World} {a : Option Addr} {l : List Int} (h : IntsAt w a l) (hE : Below w.heap.size w W) : IntsAt W a l := fun i hi => by
  obtain ⟨b, off, e, hc⟩ := h i hi
  exact ⟨b, off, e, (hE.cell (p := ⟨b, off + i, none⟩) (cell_lt hc)).trans hc⟩
theorem IntsAt.at {w : World} {a : Option Addr} {l : List Int} (h : IntsAt w a l) {i : Nat} (hi : i < l.length) : ∃ b off, a = some ⟨b, off, none⟩ ∧ w.cell? ⟨b, off + i, none⟩ = some (.int .i64 l[i]) := h i hi
theorem IntsAt.nil {w : World} {a : Option Addr} : IntsAt w a [] := fun i hi => by simp at hi
theorem IsRow.ints {w : World} {a : Option Addr} {len cap : Nat} {zs : List Int} (h : IsRow .i64 w a len cap zs) :
    ∃ l : List Int, l.length = len ∧ len ≤ maxLen ∧ IntsAt w a l ∧ ∀ n ∈ l, -9223372036854775808 ≤ n ∧ n ≤ 9223372036854775807 := by
  rcases h with ⟨rfl, rfl, rfl, rfl⟩ | ⟨x, rfl, hl, hm, hz, hcell, hwz⟩
  · exact ⟨[], rfl, by simp, IntsAt.nil, by simp⟩
  · refine ⟨zs.take len, by simp; omega, by omega, fun i hi => ?_, fun n hn => i64_bd (hwz n (List.mem_of_mem_take hn))⟩
    have hi2 : i < zs.length := by simp at hi; omega
    have hc := hcell i hi2
    obtain ⟨b, off, spot⟩ := x
    have hspot : spot = none := by
      have := World.cell?_spot (hcell 0 (by omega))
      simpa [Addr.add] using this
    subst hspot
    refine ⟨b, off, rfl, ?_⟩
    have e : (⟨b, off, none⟩ : Addr).add i = ⟨b, off + i, none⟩ := by unfold Addr.add; split <;> simp_all
    rw [e] at hc
    rw [hc]
    simp [List.getD_eq_getElem?_getD, hi2]


end Go.Proofs.YtgkalcboklhdgaaGreatDoor

namespace Go.Proofs.YtgkalcboklhdgaaGreatDoor
open Go.RowKit
set_option linter.unusedVariables false

theorem ownsRow_extI {base : Nat} {e : TypeId} {k : Nat} {v : Value} {n : Nat} {xs : List Value} {w w' : World} (h : w.ownsRow base e k v n xs) (hb : Below w.heap.size w w') : w'.ownsRow base e k v n xs :=
  h.kept (row := none) ⟨hb.os, hb.tape, hb.output, hb.size, fun i hi _ => hb.block i hi⟩ (by cases v.ownBlock with | none => exact .inl rfl | some j => exact .inr (by simp))
variable {ops : Array Oper} {rest : List Oper} {o : Oper} {a : Act} {Q : Exit → Act → World → Prop}
/-- v is a slice of integers of the call's own, holding l -/
def RowI (base : Nat) (v : Value) (l : List Int) (w : World) : Prop := w.ownsRow base 3 1 v l.length (l.map (Value.int .i64))
theorem infoI' : (Tryz.prog.info? 3).map (fun i => (i.zero, i.size, i.bytes)) = some (some (.int .i64 0), 1, 8) := by kernel_rfl
theorem RowI.nil (base : Nat) (w : World) : RowI base (.slice none 0 0) [] w := World.ownsRow_nil _ _ _ _
theorem RowI.empty (w : World) (base : Nat) (hb : base ≤ w.heap.size) : RowI base (.slice (some ⟨w.heap.size, 0, none⟩) 0 0) [] (w.alloc (.cells #[] 3)) :=
  World.ownsRow_lit w #[] 0 hb (by unfold maxLen; omega) (by simp)
theorem RowI.ext {base : Nat} {v : Value} {l : List Int} {w w' : World} (h : RowI base v l w) (hb : Below w.heap.size w w') : RowI base v l w' := ownsRow_extI h hb
theorem RowI.forms {base : Nat} {v : Value} {l : List Int} {w : World} (h : RowI base v l w) : (v = .slice none 0 0 ∧ l.length = 0) ∨ ∃ g cap, v = .slice (some ⟨g, 0, none⟩) l.length cap := Go.Joins.ownsRow_forms h
theorem RowI.ints {base : Nat} {v : Value} {l : List Int} {w : World} (h : RowI base v l w) : ∃ x c, v = .slice x l.length c ∧ IntsAt w x l ∧ (∀ y, x = some y → base ≤ y.block) ∧ (x = none → c = 0) := by
  rcases h.forms with ⟨rfl, h0⟩ | ⟨g, cap, rfl⟩
  · obtain rfl := List.eq_nil_of_length_eq_zero h0
    exact ⟨none, 0, rfl, IntsAt.nil, (fun y e => by cases e), fun _ => rfl⟩
  · refine ⟨_, _, rfl, fun i hi => ⟨_, _, rfl, ?_⟩, (fun y e => by cases e; exact (World.ownsRow.lt h g rfl).1), (fun e => by cases e)⟩
    rw [Nat.zero_add, World.ownsRow.cellAt h i (by omega)]
    simp [hi]

theorem wp_appI (hgd : o.guard = none) (s x : Operand) (ho : o.op = .call { callee := .builtin .append, args := #[s, x], argTypes := #[95, 95] })
    (base : Nat) (v : Value) (l : List Int) (hs : a.eval s = v) (W : World) (h : RowI base v l W) (n : Int) (hx : a.eval x = .slice (some ⟨W.heap.size, 0, none⟩) 1 1) (hlen : l.length ≤ 10000000000) (hbase : base ≤ W.heap.size)
    (hK : ∀ v' w', RowI base v' (l ++ [n]) w' → Below base W w' → wpList Tryz.prog ops Q rest (a.put o.dst v') w') : wpList Tryz.prog ops Q (o :: rest) a (W.alloc (.cells #[.int .i64 n] 3)) := by
  obtain ⟨i0, hi, hz0, hz1, hz2⟩ := info_parts infoI'
  refine wpList_append_own _ hgd s x 95 ho base 3 i0 (.int .i64 0) 1 8 Tryz.underlying95 hi hz0 hz1 hz2 rfl (by decide) v l.length (l.map (Value.int .i64)) hs (World.ownsRow.alloc h _) ⟨W.heap.size, 0, none⟩ 1 1 [.int .i64 n] hx rfl (cell_one_new _ _ _) (by simp [Value.oneCell']) (by unfold maxLen; omega) (by omega) (by simp; omega) ?_
  intro v' w' hown hg _
  refine hK v' w' ?_ ?_
  · unfold RowI
    simpa using hown
  · exact ((Below.refl base W).alloc hbase _).grown hg (by simp; omega) (fun k e => (World.ownsRow.lt h k e).1)

end Go.Proofs.YtgkalcboklhdgaaGreatDoor

namespace Go.Proofs.YtgkalcboklhdgaaGreatDoor
open Go.RowKit
set_option linter.unusedVariables false
set_option linter.unusedSimpArgs false
open Ex

/-- the cells of the variable that holds operator o -/
def opF (o : Int) (c : Array Value) : Prop := ∃ fv, c = #[sV (opOf o).sign, .int .i64 (opOf o).prec, .int .i64 (opOf o).arg, .int .i64 (opOf o).res, fv]
/-- the values of the region that looks a known operator up -/
def op25 (B Bd : Nat) (o : Int) : Nat → (Nat → Value) → World → Prop
  | 0, s, W => ∃ b, s 0 = .map (some b) ∧ OpsAt W b opL
  | 1, s, _ => s 1 = .pointer (some ⟨B, 1, none⟩)
  | 2, s, _ => s 2 = .int .i64 o
  | 3, s, _ => ∃ fv, s 3 = (opOf o).val fv ∧ fv.oneCell' = true
  | 4, s, W => ∃ g cc, s 4 = .pointer (some ⟨g, 0, none⟩) ∧ Bd ≤ g ∧ W.heap[g]? = some (.cells cc tOp (0, 0)) ∧ cc.size = 5
  | 5, s, W => ∃ g cc, s 4 = .pointer (some ⟨g, 0, none⟩) ∧ Bd ≤ g ∧ W.heap[g]? = some (.cells cc tOp (0, 0)) ∧ opF o cc
  | _, _, _ => True
def op25D : Nat → List Nat := fun j => if j = 5 then [4] else [j]
theorem op25_st (B Bd : Nat) (o : Int) : ∀ j s s' W W', op25 B Bd o j s W → (∀ i ∈ op25D j, s' i = s i) → Grow Bd tOp (opF o) W W' → op25 B Bd o j s' W' := by
  intro j s s' W W' h hs hG
  match j, h, hs with
  | 0, ⟨b, h1, h2⟩, hs => exact ⟨b, (hs 0 (by simp [op25D])).trans h1, h2.grow hG (by decide) (by decide)⟩
  | 1, h, hs => exact (hs 1 (by simp [op25D])).trans h
  | 2, h, hs => exact (hs 2 (by simp [op25D])).trans h
  | 3, ⟨fv, h1, h2⟩, hs => exact ⟨fv, (hs 3 (by simp [op25D])).trans h1, h2⟩
  | 4, ⟨g, cc, h1, h2, h3, h4⟩, hs =>
    obtain ⟨c', h5, h6⟩ := hG.turn h3
    exact ⟨g, c', (hs 4 (by simp [op25D])).trans h1, h2, h5, h6.trans h4⟩
  | 5, ⟨g, cc, h1, h2, h3, h4⟩, hs =>
    obtain ⟨c', h5, h6⟩ := hG.done h3 h4
    exact ⟨g, c', (hs 4 (by simp [op25D])).trans h1, h2, h5, h6⟩
  | n + 6, h, hs => exact trivial
theorem six {α : Type} (fs : List α) (h : fs.length = 6) : ∃ a b c d e f, fs = [a, b, c, d, e, f] := by
  match fs, h with
  | [a, b, c, d, e, f], _ => exact ⟨a, b, c, d, e, f, rfl⟩
theorem fnOk_one {W : World} {k : Int} {fv : Value} (h : FnOk W k fv) : fv.oneCell' = true := by
  rcases h with ⟨_, rfl⟩ | ⟨n, g, _, rfl, _⟩ | ⟨n, g, _, rfl, _⟩ | ⟨n, g, h, _, rfl, _⟩ <;> rfl

def i2V (r : Int × Int) : Value := .tuple #[.int .i64 r.1, .int .i64 r.2]
theorem opOf_arg (o : Int) (h : knownB o = true) : (opOf o).arg = 0 ∨ (opOf o).arg = 1 ∨ (opOf o).arg = 2 := by
  have hk' : 3 ≤ o ∧ o ≤ 15 := by simpa [knownB] using h
  have hk2 : o = 3 ∨ o = 4 ∨ o = 5 ∨ o = 6 ∨ o = 7 ∨ o = 8 ∨ o = 9 ∨ o = 10 ∨ o = 11 ∨ o = 12 ∨ o = 13 ∨ o = 14 ∨ o = 15 := by omega
  rcases hk2 with rfl | rfl | rfl | rfl | rfl | rfl | rfl | rfl | rfl | rfl | rfl | rfl | rfl <;> decide

set_option maxRecDepth 100000 in
set_option maxHeartbeats 8000000 in
theorem typed_any (bs : List Bn) (pb : Option Addr) (cb : Nat) : ∀ (n : Nat) (e : Ex), e.size ≤ n → ∀ (p : Option Addr) (c : Nat) (w : World), Ex.At w p e → BAt w pb bs → e.fe = 0 →
    Gives Tryz.prog 41 #[e.val p c, .slice pb bs.length cb] w (i2V (e.ty bs)) := by
  intro n
  induction n with
  | zero => intro e he; have := e.size_pos; omega
  | succ n ih =>
    intro e he p c w hA hBA hfe
    obtain ⟨k, o, nm, v, ts⟩ := e
    have HA := Lib.hid hA
    have hl : ts.length ≤ 2199023255488 := hA.fit.2.2.2.2
    have HS := Lib.hid (fun j (h : j < ts.length) => size_get ts j h)
    have hN : (Ex.mk k o nm v ts).size = 1 + sizes ts := rfl
    have hv : (Ex.mk k o nm v ts).val p c = .agg #[.int .i64 k, .int .i64 o, sV nm, .int .i64 v, .slice p ts.length c] := rfl
    rw [hv]
    have IH := Lib.hid ih
    clear hA hv ih
    have HBA := Lib.hid hBA
    obtain ⟨hpc, hfes⟩ := fe_mk hfe
    have HFE := Lib.hid (fun j hj => fes_get hfes j hj)
    have HM := Lib.hid (fun j h => mapE_take (Ex.ty bs) ts j h)
    have HL := Lib.hid (mapE_len (Ex.ty bs) ts)
    have HTY : (Ex.mk k o nm v ts).ty bs = if (mapE (Ex.ty bs) ts).1 ≠ 0 then (0, (mapE (Ex.ty bs) ts).1) else tyN bs k o nm (mapE (Ex.ty bs) ts).2 := by rw [← tys_map]; rfl
    have HPC := Lib.hid hpc
    have HT := Lib.hid HTY
    have hl100 : ts.length ≤ 2 := by rcases pc_zero hpc with h | h | h | h <;> omega
    generalize (Ex.mk k o nm v ts).ty bs = res at *
    clear hBA hfe hfes hpc HTY
    have hE0 : Ext w (w.alloc (.cells #[.int .i64 k, .int .i64 o, sV nm, .int .i64 v, .slice p ts.length c] 24)) := (Below.refl _ w).alloc (Nat.le_refl _) _
    have HE0 := Lib.hid hE0
    clear hE0
    unfold Gives
    go_enter Tryz.func41, Tryz.ntmps41
    go_wp2
    go_loopw [6, 18] (fun u i wr => ∃ (j : Nat), j ≤ ts.length ∧ i = .int .i64 (j : Int) ∧ RowI (w.heap.size + 1) u (mapE (Ex.ty bs) (ts.take j)).2 wr ∧ (mapE (Ex.ty bs) (ts.take j)).1 = 0 ∧ (mapE (Ex.ty bs) (ts.take j)).2.length = j ∧ Ext (w.alloc (.cells #[.int .i64 k, .int .i64 o, sV nm, .int .i64 v, .slice p ts.length c] 24)) wr) (fun _ i _ => ts.length - (intOf i).toNat)
    case atStart => exact ⟨0, Nat.zero_le _, rfl, RowI.nil _ _, rfl, rfl, Below.refl _ _⟩
    case round =>
      obtain ⟨j, hj, rfl, hrow, hm0, hmlen, hE⟩ := hrel
      obtain ⟨b0, b1, b2, b3, b4, hW⟩ := hE.box
      have HE := Lib.hid hE
      clear hE
      have HRow := Lib.hid hrow
      have HM0 := Lib.hid hm0
      have HML := Lib.hid hmlen
      clear hrow hm0 hmlen
      by_cases hlt : j < ts.length
      · obtain ⟨b, off, q, cc, rfl, hcs, hA0⟩ := HA.out.get j hlt
        obtain ⟨c0, c1, c2, c3, c4⟩ := hcs.below hW
        have hA := hA0.below hW
        clear hcs
        have hs := HS.out j hlt
        have hsz : (ts[j]).size ≤ n := by omega
        have C := Lib.hid (fun W (hA : Ex.At W q ts[j]) (hB : BAt W pb bs) => IH.out (ts[j]) hsz q cc W hA hB (HFE.out j hlt))
        unfold Gives at C
        obtain ⟨hno, hyes⟩ := HM.out j hlt HM0.out
        have hAbox : ∀ W, Ext wr W → Ex.At W q ts[j] := fun W h => hA.below h
        have HA2 := Lib.hid hAbox
        have HBw := Lib.hid (HBA.out.below hW)
        clear hA hAbox
        change Hid (∀ W, _ → _ → Calls _ _ #[.agg #[.int .i64 (ts[j]).kind, .int .i64 (ts[j]).op, sV (ts[j]).name, .int .i64 (ts[j]).value, .slice q (ts[j]).args.length cc], _] _ _) at C
        generalize (ts[j]).ty bs = tj at *
        obtain ⟨t1, t2⟩ := tj
        simp only at hno hyes
        generalize (ts[j]).kind = k1 at *
        generalize (ts[j]).op = o1 at *
        generalize (ts[j]).name = n1 at *
        generalize (ts[j]).value = v1 at *
        generalize (ts[j]).args.length = l1 at *
        generalize (ts[j]).size = s1 at *
        have HY := Lib.hid hyes
        have HNo := Lib.hid hno
        clear hno hyes
        go_wp2_with fail
        refine (C.out _ (HA2.out _ ((Below.refl _ wr).alloc (Nat.le_refl _) _)) (HBw.out.below ((Below.refl _ wr).alloc (Nat.le_refl _) _))).mono ?_
        rintro e w2 ⟨rfl, hB2⟩
        unfold i2V
        have HE2 := Lib.hid (Ext.trans HE.out (Ext.trans ((Below.refl _ wr).alloc (Nat.le_refl _) _) hB2))
        have HB2 := Lib.hid hB2
        clear hB2
        by_cases hf : t2 = 0
        · subst hf
          have hY := HY.out rfl
          have hrow2 := HRow.out.ext (Ext.trans ((Below.refl _ wr).alloc (Nat.le_refl _) _) HB2.out)
          have hbase : w.heap.size + 1 ≤ w2.heap.size := by have := HE2.out.size; simp at this; omega
          have hlen10 : (mapE (Ex.ty bs) (ts.take j)).2.length ≤ 10000000000 := by rw [HML.out]; omega
          have HYl := Lib.hid hY
          generalize (mapE (Ex.ty bs) (ts.take j)).2 = lj at *
          clear hY
          go_wp2_with (at_builtin; refine wp_appI rfl _ _ (by rfl) (w.heap.size + 1) _ _ (by rfl) _ hrow2 t1 (by rfl) hlen10 hbase ?_; intro v' w3 hr3 hB3; have HB3 := Lib.hid hB3; have HR3 := Lib.hid hr3; clear hB3 hr3 hrow2)
          go_roundw
          case rel =>
            refine ⟨j + 1, by omega, by go_num, ?_, ?_, ?_, ?_⟩
            · rw [HYl.out]; exact HR3.out
            · rw [HYl.out]
            · rw [HYl.out]; simp [HML.out]
            · exact Below.trans HE2.out ((HB3.out).mono (by simp))
          case measure => simp [intOf]; omega
        · have hg1 : (t2 == 0) = false := by simpa using hf
          have hg2 : (t2 != 0) = true := by simpa using hf
          have HNE := Lib.hid hf
          have HZ := Lib.hid (show res = (0, t2) by rw [HT.out, HNo.out hf, if_pos hf])
          clear hf
          go_wp2
          go_ret2
          exact ⟨by rw [HZ.out]; rfl, Ext.trans ((Below.refl _ w).alloc (Nat.le_refl _) _) HE2.out⟩
      · have hk : ts.take j = ts := List.take_of_length_le (by omega)
        rw [hk] at HRow HM0 HML
        have hjl : j = ts.length := by omega
        have HRES := Lib.hid (show res = tyN bs k o nm (mapE (Ex.ty bs) ts).2 by rw [HT.out, if_neg (by simp [HM0.out])])
        generalize (mapE (Ex.ty bs) ts).2 = l at *
        obtain ⟨x, cx, rfl, hI, _, _⟩ := HRow.out.ints
        have HI := Lib.hid hI
        have HLL := Lib.hid (HML.out.trans hjl)
        clear hk hjl hI HRow IH HM HFE HS HL HT HM0 HML
        rcases pc_zero HPC.out with ⟨rfl, _⟩ | ⟨rfl, _⟩ | ⟨rfl, _, _, hm, ho⟩ | ⟨rfl, _, _, hm, ho1, ho2⟩
        · have HZ := Lib.hid (show res = (1, 0) by rw [HRES.out]; rfl)
          go_wp2
          go_ret2
          exact ⟨by rw [HZ.out]; rfl, hW⟩
        · have F := Lib.hid (find_any bs pb cb nm wr (HBA.out.below hW))
          unfold Gives fdV at F
          have HZ := Lib.hid (show res = if fdIs bs nm then ((fdB bs nm).type, 0) else (0, 7) by rw [HRES.out]; rfl)
          have hv2 : (fdB bs nm).val = .agg #[sV (fdB bs nm).name, .int .i64 (fdB bs nm).type, .int .i64 (fdB bs nm).value] := rfl
          rw [hv2] at F
          generalize (fdB bs nm).name = fn at *
          generalize (fdB bs nm).type = ft at *
          generalize (fdB bs nm).value = fv at *
          clear hv2
          cases hb : fdIs bs nm with
          | true =>
            rw [hb] at F HZ
            go_wp2_with fail
            refine F.out.mono ?_
            rintro e w4 ⟨rfl, hB4⟩
            go_wp2
            go_ret2
            exact ⟨by rw [HZ.out]; rfl, Ext.trans hW (Ext.trans hB4 ((Below.refl _ w4).alloc (Nat.le_refl _) _))⟩
          | false =>
            rw [hb] at F HZ
            go_wp2_with fail
            refine F.out.mono ?_
            rintro e w4 ⟨rfl, hB4⟩
            go_wp2
            go_ret2
            exact ⟨by rw [HZ.out]; rfl, Ext.trans hW (Ext.trans hB4 ((Below.refl _ w4).alloc (Nat.le_refl _) _))⟩
        · have hll : l.length = 1 := HLL.out.trans hm
          obtain ⟨t0, rfl⟩ : ∃ t0, l = [t0] := List.length_eq_one_iff.1 hll
          obtain ⟨xb, xo, rfl, hx0⟩ := HI.out 0 (by simp)
          simp only [List.getElem_cons_zero] at hx0
          have hx0' : wr.cell? ⟨xb, xo, none⟩ = some (.int .i64 t0) := hx0
          clear hx0 hll HI HLL hm
          rcases ho with rfl | rfl
          · by_cases ht : t0 = 1
            · subst ht
              have HZ := Lib.hid (show res = (1, 0) by rw [HRES.out]; rfl)
              go_wp2
              go_ret2
              exact ⟨by rw [HZ.out]; rfl, hW⟩
            · have hg1 : (t0 == 1) = false := by simpa using ht
              have hg2 : (t0 != 1) = true := by simpa using ht
              have HZ := Lib.hid (show res = (0, 15) by rw [HRES.out]; simp [tyN, ht])
              clear ht
              go_wp2
              go_ret2
              exact ⟨by rw [HZ.out]; rfl, hW⟩
          · by_cases ht : t0 = 2
            · subst ht
              have HZ := Lib.hid (show res = (2, 0) by rw [HRES.out]; rfl)
              go_wp2
              go_ret2
              exact ⟨by rw [HZ.out]; rfl, hW⟩
            · have hg1 : (t0 == 2) = false := by simpa using ht
              have hg2 : (t0 != 2) = true := by simpa using ht
              have HZ := Lib.hid (show res = (0, 15) by rw [HRES.out]; simp [tyN, ht])
              clear ht
              go_wp2
              go_ret2
              exact ⟨by rw [HZ.out]; rfl, hW⟩
        · have hll : l.length = 2 := HLL.out.trans hm
          obtain ⟨t0, t1, rfl⟩ : ∃ t0 t1, l = [t0, t1] := by
            match l, hll with
            | [t0, t1], _ => exact ⟨t0, t1, rfl⟩
          obtain ⟨xb, xo, rfl, hx0⟩ := HI.out 0 (by simp)
          obtain ⟨xb', xo', hxe, hx1⟩ := HI.out 1 (by simp)
          cases hxe
          have y0 : wr.cell? ⟨xb, xo, none⟩ = some (.int .i64 t0) := hx0
          have y1 : wr.cell? ⟨xb, xo + 1, none⟩ = some (.int .i64 t1) := hx1
          have hk : knownB o = true := by unfold knownB; simp; omega
          have HOA := Lib.hid (opOf_arg o hk)
          have hbx : wr.heap[w.heap.size]? = some (.cells #[.int .i64 4, .int .i64 o, sV nm, .int .i64 v, .slice p ts.length c] tEx (0, 0)) := (HE.out.below.block _ (by simp)).trans (alloc_here _ _)
          have HY0 := Lib.hid y0
          have HY1 := Lib.hid y1
          clear hx0 hx1 hll HI HLL hm ho1 ho2 b1 b2 b3 b4
          go_wp2
          have hltx := lt_of_block hbx
          refine wp_region_g (by kernel_rfl) (Grow wr.heap.size tOp (opF (o))) (Grow.drawn _ _ _) Grow.trans (op25 (w.heap.size) wr.heap.size (o)) op25D (op25_st (w.heap.size) _ (o)) (by kernel_rfl) (by kernel_rfl) (by kernel_rfl) 90 rfl (by kernel_rfl) ?_ ?_
          · intro i op ho a' W hA
            have hb : W.heap[w.heap.size]? = some (.cells #[.int .i64 4, .int .i64 o, sV nm, .int .i64 v, .slice p ts.length c] tEx (0, 0)) := (hA.rel.low hltx hltx).trans hbx
            have c1 : W.cell? ⟨w.heap.size, 1, none⟩ = some (.int .i64 (o)) := cell_of hb rfl
            match i, ho with
            | 0, ho =>
              obtain rfl := Option.some.inj ho
              refine GoesG.call 63 #[] rfl ?_ ((operators_any W).mono ?_)
              · simp [execOp, resolve, invoke, Deferred.ofValue]
                rfl
              · rintro e W1 ⟨b, rfl, hO, hE⟩
                exact ⟨_, rfl, Grow.of_ext hE, fun s h1 h2 => ⟨b, h1 rfl, hO⟩⟩
            | 1, ho =>
              obtain rfl := Option.some.inj ho
              have e1 : a'.eval (.tmp 2) = .pointer (some ⟨w.heap.size, 0, none⟩) := hA.keep 2 (by kernel_rfl)
              refine GoesG.value (.pointer (some ⟨w.heap.size, 1, none⟩)) rfl ?_ (Grow.refl _ _ _ _) (fun s h1 h2 => h1 rfl)
              simp only [execOp, e1]
              simp [go_sem]
            | 2, ho =>
              obtain rfl := Option.some.inj ho
              have e1 : a'.eval (.tmp 65) = .pointer (some ⟨w.heap.size, 1, none⟩) := (sv_dst (l := _) rfl).symm.trans (hA.new 1 (by decide) (by kernel_rfl))
              refine GoesG.value (.int .i64 (o)) rfl ?_ (Grow.refl _ _ _ _) (fun s h1 h2 => h1 rfl)
              simp only [execOp, e1]
              simp [go_sem, c1]
            | 3, ho =>
              obtain rfl := Option.some.inj ho
              obtain ⟨b, e0, hO⟩ := hA.new 0 (by decide) (by kernel_rfl)
              have e1 : a'.eval (.tmp 64) = .map (some b) := (sv_dst (l := _) rfl).symm.trans e0
              have e2 : a'.eval (.tmp 66) = .int .i64 (o) := (sv_dst (l := _) rfl).symm.trans (hA.new 2 (by decide) (by kernel_rfl))
              obtain ⟨fv, hf, hr⟩ := ops_yes hO (o) hk
              have hrun := hr false
              refine GoesG.value ((opOf (o)).val fv) rfl ?_ (Grow.refl _ _ _ _) (fun s h1 h2 => ⟨fv, h1 rfl, fnOk_one hf⟩)
              simp only [execOp, e1, e2, Sem.run_bind, hrun, Result.andThen_ok, Sem.run_pure]
              rfl
            | 4, ho =>
              obtain rfl := Option.some.inj ho
              refine GoesG.value (.pointer (some ⟨W.heap.size, 0, none⟩)) (W' := W.alloc (.cells #[sV [], .int .i64 0, .int .i64 0, .int .i64 0, .nilFunc] tOp)) rfl ?_ (Grow.of_ext ((Below.refl _ W).alloc (Nat.le_refl _) _)) (fun s h1 h2 => ⟨_, _, h1 rfl, hA.rel.size, alloc_here _ _, rfl⟩)
              simp only [execOp]
              simp [go_sem]
              rfl
            | 5, ho =>
              obtain rfl := Option.some.inj ho
              obtain ⟨g, cc, e0, hB2, hg, hcc⟩ := hA.new 4 (by decide) (by kernel_rfl)
              obtain ⟨fv, e5, hone⟩ := hA.new 3 (by decide) (by kernel_rfl)
              have e1 : a'.eval (.tmp 14) = .pointer (some ⟨g, 0, none⟩) := (sv_dst (l := _) rfl).symm.trans e0
              have e2 : a'.eval (.tmp 67) = .agg #[sV (opOf (o)).sign, .int .i64 (opOf (o)).prec, .int .i64 (opOf (o)).arg, .int .i64 (opOf (o)).res, fv] := (sv_dst (l := _) rfl).symm.trans e5
              exact GoesG.store rfl tOp (.tmp 14) (.tmp 67) rfl g _ e1 e2 tOp cc hg (by kernel_rfl) hcc (by simp [Value.oneCell']; exact hone) rfl (Grow.row hg hB2 hcc.symm ⟨fv, rfl⟩)
                (fun s h2 => ⟨g, _, (h2 4 (by decide) (by kernel_rfl)).trans e0, hB2, setRow_heap _ _ _ _ _ _ hg, fv, rfl⟩)
            | i + 6, ho => cases ho
          · intro vs W3 hvs hG hΦ
            obtain ⟨u0, u1, u2, u3, u4, u5, rfl⟩ := six vs hvs
            obtain ⟨g2, cc, hu4, hBg, hg2, fv, hcc⟩ : ∃ g cc, u4 = .pointer (some ⟨g, 0, none⟩) ∧ wr.heap.size ≤ g ∧ W3.heap[g]? = some (.cells cc tOp (0, 0)) ∧ opF (o) cc := hΦ 5 (by decide)
            subst hcc hu4
            have hW3 : Ext wr W3 := hG.ext
            clear hΦ hG hvs
            simp only [putAll, Act.put, List.setIfInBounds_toArray, List.set_cons_succ, List.set_cons_zero]
            have y0 : W3.cell? ⟨xb, xo, none⟩ = some (.int .i64 t0) := (hW3.below.cell (p := ⟨xb, xo, none⟩) (Ex.cell_lt' HY0.out)).trans HY0.out
            have y1 : W3.cell? ⟨xb, xo + 1, none⟩ = some (.int .i64 t1) := (hW3.below.cell (p := ⟨xb, xo + 1, none⟩) (Ex.cell_lt' HY1.out)).trans HY1.out
            have HWW := Lib.hid (Ext.trans hW hW3)
            have z2 : W3.cell? ⟨g2, 2, none⟩ = some (.int .i64 (opOf o).arg) := cell_of hg2 rfl
            have z3 : W3.cell? ⟨g2, 3, none⟩ = some (.int .i64 (opOf o).res) := cell_of hg2 rfl
            have HRES2 := Lib.hid (show res = if t0 = t1 ∧ ((opOf o).arg = 0 ∨ t0 = (opOf o).arg) then ((opOf o).res, 0) else (0, 15) by rw [HRES.out]; rfl)
            clear HRES hg2 hbx hW3 HY0 HY1 hltx hW
            generalize (opOf o).arg = oa at *
            generalize (opOf o).res = orr at *
            by_cases h1 : t0 = t1
            · subst h1
              by_cases h2 : oa = 0
              · subst h2
                have HZ := Lib.hid (show res = (orr, 0) by rw [HRES2.out]; simp)
                go_wp2
                go_quiet (fail)
                go_wp2
                go_ret2
                exact ⟨by rw [HZ.out]; rfl, HWW.out.drewN'⟩
              · have hg1 : (oa == 0) = false := by simpa using h2
                have hg2 : (oa != 0) = true := by simpa using h2
                by_cases h3 : t0 = oa
                · subst h3
                  have HZ := Lib.hid (show res = (orr, 0) by rw [HRES2.out]; simp)
                  clear h2
                  go_wp2
                  go_quiet (fail)
                  go_wp2
                  go_ret2
                  exact ⟨by rw [HZ.out]; rfl, HWW.out.drewN'⟩
                · have hg3 : (t0 == oa) = false := by simpa using h3
                  have hg4 : (t0 != oa) = true := by simpa using h3
                  have HZ := Lib.hid (show res = (0, 15) by rw [HRES2.out]; simp [h2, h3])
                  clear h2 h3
                  go_wp2
                  go_quiet (fail)
                  go_wp2
                  go_ret2
                  exact ⟨by rw [HZ.out]; rfl, HWW.out.drewN'⟩
            · have hg1 : (t0 == t1) = false := by simpa using h1
              have hg2 : (t0 != t1) = true := by simpa using h1
              have HZ := Lib.hid (show res = (0, 15) by rw [HRES2.out]; simp [h1])
              clear h1
              go_wp2
              go_quiet (fail)
              go_wp2
              go_ret2
              exact ⟨by rw [HZ.out]; rfl, HWW.out.drewN'⟩

end Go.Proofs.YtgkalcboklhdgaaGreatDoor

namespace Go.Proofs.YtgkalcboklhdgaaGreatDoor
open Go.RowKit
set_option linter.unusedVariables false
set_option linter.unusedSimpArgs false
open Ex

end Go.Proofs.YtgkalcboklhdgaaGreatDoor

namespace Go.Proofs.YtgkalcboklhdgaaGreatDoor
open Go.RowKit
set_option linter.unusedVariables false
set_option linter.unusedSimpArgs false
open Ex

theorem chk_zero {e : Ex} (h : e.chk = 0) : e.size ≤ 100 ∧ e.height ≤ 12 ∧ e.fe = 0 := by
  unfold Ex.chk at h
  by_cases h1 : 100 < e.size
  · rw [if_pos h1] at h; cases h
  · rw [if_neg h1] at h
    by_cases h2 : 12 < e.height
    · rw [if_pos h2] at h; cases h
    · rw [if_neg h2] at h; exact ⟨by omega, by omega, h⟩
/-- what Type returns -/
def tyR (bs : List Bn) (e : Ex) : Int × Int := if e.chk ≠ 0 then (0, e.chk) else if bnds bs then e.ty bs else (0, 1)
theorem tyR_zero {bs : List Bn} {e : Ex} (h : (tyR bs e).2 = 0) : e.chk = 0 ∧ bnds bs = true ∧ tyR bs e = e.ty bs := by
  unfold tyR at h ⊢
  by_cases h1 : e.chk = 0
  · rw [if_neg (by simp [h1])] at h ⊢
    cases hb : bnds bs with
    | true => rw [hb] at h; exact ⟨h1, rfl, by simp⟩
    | false => rw [hb] at h; cases h
  · rw [if_pos h1] at h; exact absurd h h1

set_option maxHeartbeats 1000000 in
theorem Type_any (bs : List Bn) (pb : Option Addr) (cb : Nat) (e : Ex) (p : Option Addr) (c : Nat) (w : World) (hA : Ex.At w p e) (hB : BAt w pb bs) :
    Gives Tryz.prog 12 #[e.val p c, .slice pb bs.length cb] w (i2V (tyR bs e)) := by
  have C1 := Lib.hid (fun W (h : Ext w W) => show Gives _ _ #[.agg #[.int .i64 e.kind, .int .i64 e.op, sV e.name, .int .i64 e.value, .slice p e.args.length c]] _ _ from Check_any e p c W (hA.below h))
  have C2 := Lib.hid (fun W (h : Ext w W) => show Gives _ _ #[.slice pb bs.length cb] _ _ from bound_any bs pb cb W (hB.below h))
  have C3 := Lib.hid (fun W (h : Ext w W) (h0 : e.fe = 0) => show Gives _ _ #[.agg #[.int .i64 e.kind, .int .i64 e.op, sV e.name, .int .i64 e.value, .slice p e.args.length c], _] _ _ from typed_any bs pb cb e.size e (Nat.le_refl _) p c W (hA.below h) (hB.below h) h0)
  have HZ := Lib.hid (fun h => (chk_zero (e := e) h).2.2)
  have HT := Lib.hid (show tyR bs e = if e.chk ≠ 0 then (0, e.chk) else if bnds bs then e.ty bs else (0, 1) from rfl)
  generalize tyR bs e = r at *
  unfold Gives Ex.val
  generalize e.kind = k1 at *
  generalize e.op = o1 at *
  generalize e.name = n1 at *
  generalize e.value = v1 at *
  generalize e.args.length = l1 at *
  generalize e.chk = f1 at *
  generalize e.ty bs = t1 at *
  obtain ⟨t1, t2⟩ := t1
  clear hA hB
  by_cases h1 : f1 = 0
  · subst h1
    have hfe := HZ.out rfl
    have C3' := Lib.hid (fun W (h : Ext w W) => C3.out W h hfe)
    clear C3 HZ hfe
    unfold i2V at C3' ⊢
    cases hb : bnds bs with
    | true =>
      have HR := Lib.hid (show r = (t1, t2) by rw [HT.out, hb]; rfl)
      rw [hb] at C2
      clear HT hb
      go_enter Tryz.func12, Tryz.ntmps12
      go_wp2_with fail
      refine (C1.out _ ((Below.refl _ w).alloc (Nat.le_refl _) _)).mono ?_
      intro w1 hB1
      obtain ⟨b0, b1, b2, b3, b4, hW⟩ := Ext.box hB1
      have HW := Lib.hid hW
      have HB1 := Lib.hid hB1
      clear hB1 C1 hW
      go_wp2_with fail
      refine (C2.out _ HW.out).mono ?_
      intro w2 hB2
      obtain ⟨b0, b1, b2, b3, b4, hW⟩ := Ext.box (Ext.trans HB1.out hB2)
      have HW2 := Lib.hid hW
      clear hB2 C2 hW HB1
      go_wp2_with fail
      refine (C3'.out _ HW2.out).mono ?_
      intro w3 hB3
      go_wp2
      go_ret2
      exact ⟨by rw [HR.out]; rfl, Ext.trans HW2.out hB3⟩
    | false =>
      have HR := Lib.hid (show r = (0, 1) by rw [HT.out, hb]; rfl)
      rw [hb] at C2
      clear HT hb
      go_enter Tryz.func12, Tryz.ntmps12
      go_wp2_with fail
      refine (C1.out _ ((Below.refl _ w).alloc (Nat.le_refl _) _)).mono ?_
      intro w1 hB1
      obtain ⟨b0, b1, b2, b3, b4, hW⟩ := Ext.box hB1
      have HW := Lib.hid hW
      clear hB1 C1 hW
      go_wp2_with fail
      refine (C2.out _ HW.out).mono ?_
      intro w2 hB2
      go_wp2
      go_ret2
      exact ⟨by rw [HR.out]; rfl, Ext.trans HW.out hB2⟩
  · have hg1 : (f1 == 0) = false := by simpa using h1
    have hg2 : (f1 != 0) = true := by simpa using h1
    have HR := Lib.hid (show r = (0, f1) by rw [HT.out, if_pos h1])
    unfold i2V
    clear h1 HT
    go_enter Tryz.func12, Tryz.ntmps12
    go_wp2_with fail
    refine (C1.out _ ((Below.refl _ w).alloc (Nat.le_refl _) _)).mono ?_
    intro w1 hB1
    go_wp2
    go_ret2
    exact ⟨by rw [HR.out]; rfl, Ext.trans ((Below.refl _ w).alloc (Nat.le_refl _) _) hB1⟩

end Go.Proofs.YtgkalcboklhdgaaGreatDoor

namespace Go.Proofs.YtgkalcboklhdgaaGreatDoor
open Go.RowKit
set_option linter.unusedVariables false
set_option linter.unusedSimpArgs false
open Ex

theorem mapE_get (f : Ex → Int × Int) : ∀ (ts : List Ex), (mapE f ts).1 = 0 → ∀ (j : Nat) (h : j < ts.length), ∃ h2 : j < (mapE f ts).2.length, f ts[j] = ((mapE f ts).2[j], 0) := by
  intro ts
  induction ts with
  | nil => intro _ j h; simp at h
  | cons t ts ih =>
    intro h0 j h
    by_cases ht : (f t).2 = 0
    · have e1 : mapE f (t :: ts) = ((mapE f ts).1, (f t).1 :: (mapE f ts).2) := by simp [mapE, ht]
      rw [e1] at h0
      cases j with
      | zero => exact ⟨by rw [e1]; simp, by simp only [e1, List.getElem_cons_zero]; rw [← ht]⟩
      | succ j =>
        obtain ⟨h2, h3⟩ := ih h0 j (by simpa using h)
        exact ⟨by rw [e1]; simpa using h2, by simp only [e1, List.getElem_cons_succ]; exact h3⟩
    · have e1 : (mapE f (t :: ts)).1 = (f t).2 := by simp [mapE, ht]
      rw [e1] at h0
      exact absurd h0 ht
theorem bnds_find {bs : List Bn} (hb : bnds bs = true) {n : List UInt8} {b : Bn} (h : bs.find? (isN n) = some b) : (b.type = 1 ∧ inM b.value) ∨ (b.type = 2 ∧ (b.value = 0 ∨ b.value = 1)) := by
  have hm := List.mem_of_find?_eq_some h
  have hall : ∀ (bs : List Bn) (prev : Option (List UInt8)), bnsOk prev bs = true → ∀ b ∈ bs, ∃ q, b.ok q = true := by
    intro bs
    induction bs with
    | nil => intro _ _ b hb; simp at hb
    | cons x xs ih =>
      intro prev h b hb
      rw [bnsOk, Bool.and_eq_true] at h
      rcases List.mem_cons.1 hb with rfl | hb
      · exact ⟨prev, h.1⟩
      · exact ih _ h.2 b hb
  unfold bnds at hb
  rw [Bool.and_eq_true] at hb
  obtain ⟨q, hq⟩ := hall bs none hb.1 b hm
  unfold Bn.ok at hq
  simp only [Bool.and_eq_true, decide_eq_true_eq] at hq
  obtain ⟨⟨⟨_, _⟩, ht⟩, hv⟩ := hq
  by_cases h2 : b.type = 2
  · rw [if_pos h2] at hv
    exact .inr ⟨h2, by simpa using hv⟩
  · rw [if_neg h2] at hv
    exact .inl ⟨by omega, by simpa using hv⟩
theorem opOf_res (o : Int) (h1 : 3 ≤ o) (h2 : o ≤ 15) : (opOf o).res = if o ≤ 7 then 1 else 2 := by
  have hk2 : o = 3 ∨ o = 4 ∨ o = 5 ∨ o = 6 ∨ o = 7 ∨ o = 8 ∨ o = 9 ∨ o = 10 ∨ o = 11 ∨ o = 12 ∨ o = 13 ∨ o = 14 ∨ o = 15 := by omega
  rcases hk2 with rfl | rfl | rfl | rfl | rfl | rfl | rfl | rfl | rfl | rfl | rfl | rfl | rfl <;> rfl
theorem opE_sound {o x y r : Int} (h1 : 3 ≤ o) (h2 : o ≤ 15) (h : opE o x y = (r, 0)) : inM r ∧ (8 ≤ o → r = 0 ∨ r = 1) := by
  unfold opE at h
  split at h
  · rename_i hne; simp only [Prod.mk.injEq] at h; exact absurd h.2 hne
  · rename_i hz
    split at h
    · rename_i hin
      simp only [Prod.mk.injEq] at h
      obtain ⟨rfl, _⟩ := h
      refine ⟨hin, fun h8 => ?_⟩
      unfold opR
      rw [if_neg (by omega), if_neg (by omega), if_neg (by omega), if_neg (by omega), if_neg (by omega)]
      simp only
      cases truB o x y <;> simp
    · simp at h
theorem ty_mk {bs : List Bn} {k o : Int} {n : List UInt8} {v : Int} {ts : List Ex} {t : Int} (h : (Ex.mk k o n v ts).ty bs = (t, 0)) : (mapE (Ex.ty bs) ts).1 = 0 ∧ tyN bs k o n (mapE (Ex.ty bs) ts).2 = (t, 0) := by
  simp only [Ex.ty, tys_map] at h
  by_cases h0 : (mapE (Ex.ty bs) ts).1 = 0
  · rw [if_neg (by simp [h0])] at h; exact ⟨h0, h⟩
  · rw [if_pos h0] at h
    simp only [Prod.mk.injEq] at h
    exact absurd h.2 h0
theorem ev_mk {bs : List Bn} {k o : Int} {n : List UInt8} {v : Int} {ts : List Ex} {t : Int} (h : (Ex.mk k o n v ts).ev bs = (t, 0)) : (mapE (Ex.ev bs) ts).1 = 0 ∧ evN bs k o n v (mapE (Ex.ev bs) ts).2 = (t, 0) := by
  simp only [Ex.ev, evs_map] at h
  by_cases h0 : (mapE (Ex.ev bs) ts).1 = 0
  · rw [if_neg (by simp [h0])] at h; exact ⟨h0, h⟩
  · rw [if_pos h0] at h
    simp only [Prod.mk.injEq] at h
    exact absurd h.2 h0
theorem len1 {α : Type} {l : List α} (h : l.length = 1) : ∃ a, l = [a] := List.length_eq_one_iff.1 h
theorem len2 {α : Type} {l : List α} (h : l.length = 2) : ∃ a b, l = [a, b] := by
  match l, h with
  | [a, b], _ => exact ⟨a, b, rfl⟩
/-- types are 1 and 2, values in range, those of booleans 0 or 1 -/
theorem ev_sound {bs : List Bn} (hb : bnds bs = true) : ∀ (n : Nat) (e : Ex), e.size ≤ n → e.fe = 0 → ∀ t, e.ty bs = (t, 0) → (t = 1 ∨ t = 2) ∧ ∀ x, e.ev bs = (x, 0) → inM x ∧ (t = 2 → x = 0 ∨ x = 1) := by
  intro n
  induction n with
  | zero => intro e he; have := e.size_pos; omega
  | succ n ih =>
    intro e he hfe t ht
    obtain ⟨k, o, nm, v, ts⟩ := e
    obtain ⟨hpc, hfes⟩ := fe_mk hfe
    obtain ⟨ht0, htn⟩ := ty_mk ht
    have hsz : ∀ j (h : j < ts.length), (ts[j]).size ≤ n := fun j h => by have := size_get ts j h; simp only [Ex.size] at he; omega
    have hlen := mapE_len _ ts ht0
    rcases pc_zero hpc with ⟨rfl, rfl, rfl, hm, hv1, hv2⟩ | ⟨rfl, rfl, rfl, hm, hnm⟩ | ⟨rfl, rfl, rfl, hm, ho⟩ | ⟨rfl, rfl, rfl, hm, ho1, ho2⟩
    · have e1 : t = 1 := by simp [tyN] at htn; exact htn.symm
      subst e1
      refine ⟨.inl rfl, fun x hx => ?_⟩
      obtain ⟨_, hx2⟩ := ev_mk hx
      have : x = v := by simp [evN] at hx2; exact hx2.symm
      subst this
      exact ⟨⟨by omega, by omega⟩, fun h => by omega⟩
    · have hfi : fdIs bs nm = true := by
        cases hf : fdIs bs nm with
        | true => rfl
        | false => simp [tyN, hf] at htn
      obtain ⟨b, hbf⟩ : ∃ b, bs.find? (isN nm) = some b := Option.isSome_iff_exists.1 hfi
      have hfd : fdB bs nm = b := by unfold fdB; rw [hbf]; rfl
      have e1 : t = b.type := by simp [tyN, hfi, hfd] at htn; exact htn.symm
      have hbb := bnds_find hb hbf
      subst e1
      refine ⟨by omega, fun x hx => ?_⟩
      obtain ⟨_, hx2⟩ := ev_mk hx
      have : x = b.value := by simp [evN, hfd] at hx2; exact hx2.symm
      subst this
      rcases hbb with ⟨h1, h2⟩ | ⟨h1, h2⟩
      · exact ⟨h2, fun h => by omega⟩
      · exact ⟨by unfold inM; omega, fun _ => h2⟩
    · obtain ⟨a, rfl⟩ := len1 hm
      obtain ⟨h2, h3⟩ := mapE_get _ _ ht0 0 (by simp)
      simp only [List.getElem_cons_zero] at h3
      have ia := ih a (hsz 0 (by simp)) (fes_get hfes 0 (by simp)) _ h3
      have hg : (mapE (Ex.ty bs) [a]).2.getD 0 0 = (mapE (Ex.ty bs) [a]).2[0] := by rw [List.getD_eq_getElem?_getD, List.getElem?_eq_getElem h2]; rfl
      generalize (mapE (Ex.ty bs) [a]).2[0] = ta at *
      have htt : ta = (if o = 2 then 2 else 1) ∧ t = (if o = 2 then 2 else 1) := by
        unfold tyN at htn
        rw [if_neg (by decide), if_neg (by decide), if_pos rfl, hg] at htn
        by_cases hh : ta = (if o = 2 then 2 else 1)
        · rw [if_pos hh] at htn
          simp only [Prod.mk.injEq] at htn
          exact ⟨hh, htn.1.symm⟩
        · rw [if_neg hh] at htn
          simp only [Prod.mk.injEq] at htn
          exact absurd htn.2 (by decide)
      refine ⟨by split at htt <;> omega, fun x hx => ?_⟩
      obtain ⟨hx1, hx2⟩ := ev_mk hx
      obtain ⟨h4, h5⟩ := mapE_get _ _ hx1 0 (by simp)
      simp only [List.getElem_cons_zero] at h5
      have hva := ia.2 _ h5
      have hg2 : (mapE (Ex.ev bs) [a]).2.getD 0 0 = (mapE (Ex.ev bs) [a]).2[0] := by rw [List.getD_eq_getElem?_getD, List.getElem?_eq_getElem h4]; rfl
      generalize (mapE (Ex.ev bs) [a]).2[0] = va at *
      unfold evN at hx2
      rw [if_neg (by decide), if_neg (by decide), if_pos rfl, hg2] at hx2
      simp only [Prod.mk.injEq, and_true] at hx2
      unfold inM at *
      rcases ho with rfl | rfl
      · simp at htt hx2; omega
      · simp at htt hx2; omega
    · have hl2 : (mapE (Ex.ty bs) ts).2.length = 2 := by rw [hlen, hm]
      have htt : t = (opOf o).res := by
        unfold tyN at htn
        rw [if_neg (by decide), if_neg (by decide), if_neg (by decide)] at htn
        split at htn
        · simp only [Prod.mk.injEq] at htn; exact htn.1.symm
        · simp at htn
      rw [opOf_res o ho1 ho2] at htt
      refine ⟨by split at htt <;> omega, fun x hx => ?_⟩
      obtain ⟨hx1, hx2⟩ := ev_mk hx
      unfold evN at hx2
      rw [if_neg (by decide), if_neg (by decide), if_neg (by decide)] at hx2
      obtain ⟨q1, q2⟩ := opE_sound ho1 ho2 hx2
      exact ⟨q1, fun h => q2 (by split at htt <;> omega)⟩

end Go.Proofs.YtgkalcboklhdgaaGreatDoor

namespace Go.Proofs.YtgkalcboklhdgaaGreatDoor
open Go.RowKit
set_option linter.unusedVariables false
set_option linter.unusedSimpArgs false
open Ex

theorem abs_wide (x : Int) (h1 : -2199023255552 ≤ x) (h2 : x ≤ 2199023255552) : Does 75 #[.int .i64 x] (.int .i64 (x.natAbs : Int)) := by
  intro w
  by_cases h : 0 ≤ x
  · have hz := Lib.hid (show ((x.natAbs : Nat) : Int) = x by omega)
    rw [hz.out]
    go_enter Tryz.func75, Tryz.ntmps75
    go_wp2
    go_ret
    exact ⟨by first | rfl | exact ret_int (by omega), rfl⟩
  · have hz := Lib.hid (show ((x.natAbs : Nat) : Int) = -x by omega)
    rw [hz.out]
    go_enter Tryz.func75, Tryz.ntmps75
    go_wp2
    go_ret
    exact ⟨by first | rfl | exact ret_int (by omega), rfl⟩
theorem opR_bd {o x y : Int} (h1 : 3 ≤ o) (h2 : o ≤ 15) (hx : inM x) (hy : inM y) (h : (opR o x y).2 = 0) : -2199023255552 ≤ (opR o x y).1 ∧ (opR o x y).1 ≤ 2199023255552 := by
  have hk2 : o = 3 ∨ o = 4 ∨ o = 5 ∨ o = 6 ∨ o = 7 ∨ 8 ≤ o := by omega
  have hx' := hx
  have hy' := hy
  unfold inM at hx' hy'
  rcases hk2 with rfl | rfl | rfl | rfl | rfl | h8
  · unfold opR; rw [if_pos rfl]; simp only; omega
  · unfold opR; rw [if_neg (by decide), if_pos rfl]; simp only; omega
  · unfold opR at h ⊢
    rw [if_neg (by decide), if_neg (by decide), if_pos rfl] at h ⊢
    cases hm : mulBig x y with
    | true => rw [hm] at h; simp at h
    | false =>
      have := mul_bd x y hx hy hm
      unfold inM at this
      simp only [Bool.false_eq_true, if_false]; omega
  · unfold opR at h ⊢
    rw [if_neg (by decide), if_neg (by decide), if_neg (by decide), if_pos rfl] at h ⊢
    by_cases h0 : y = 0
    · rw [if_pos h0] at h; simp at h
    · rw [if_neg h0]
      have := tdiv_bd x y hx h0
      unfold inM at this
      simp only; omega
  · unfold opR at h ⊢
    rw [if_neg (by decide), if_neg (by decide), if_neg (by decide), if_neg (by decide), if_pos rfl] at h ⊢
    by_cases h0 : y = 0
    · rw [if_pos h0] at h; simp at h
    · rw [if_neg h0]
      have := tmod_bd x y hx
      unfold inM at this
      simp only; omega
  · unfold opR
    rw [if_neg (by omega), if_neg (by omega), if_neg (by omega), if_neg (by omega), if_neg (by omega)]
    cases truB o x y <;> simp

/-- the values of the region that computes an operator -/
def vl12 (B xb xo cx : Nat) (o x y : Int) : Nat → (Nat → Value) → World → Prop
  | 0, s, W => ∃ b, s 0 = .map (some b) ∧ OpsAt W b opL
  | 1, s, _ => s 1 = .pointer (some ⟨B, 1, none⟩)
  | 2, s, _ => s 2 = .int .i64 o
  | 3, s, W => ∃ fv, s 3 = (opOf o).val fv ∧ FnOk W o fv
  | 4, s, W => FnOk W o (s 4)
  | 5, s, _ => s 5 = .slice (some ⟨xb, xo, none⟩) 2 cx
  | 6, s, _ => s 6 = .pointer (some ⟨xb, xo, none⟩)
  | 7, s, _ => s 7 = .int .i64 x
  | 8, s, _ => s 8 = .slice (some ⟨xb, xo, none⟩) 2 cx
  | 9, s, _ => s 9 = .pointer (some ⟨xb, xo + 1, none⟩)
  | 10, s, _ => s 10 = .int .i64 y
  | 11, s, _ => s 11 = i2V (opR o x y)
  | 12, s, _ => s 12 = i2V (opR o x y)
  | 13, s, _ => s 13 = .int .i64 (opR o x y).1
  | 14, s, _ => s 14 = .int .i64 (opR o x y).2
  | 15, s, _ => s 15 = .int .i64 (opR o x y).1
  | 16, s, _ => s 16 = .int .i64 (opR o x y).2
  | _, _, _ => True
theorem vl12_st (B xb xo cx : Nat) (o x y : Int) : ∀ j s s' W W', vl12 B xb xo cx o x y j s W → (∀ i ∈ [j], s' i = s i) → Ext W W' → vl12 B xb xo cx o x y j s' W' := by
  intro j s s' W W' h hs hG
  match j, h, hs with
  | 0, ⟨b, h1, h2⟩, hs => exact ⟨b, (hs 0 (by simp)).trans h1, h2.ext hG⟩
  | 1, h, hs => exact (hs 1 (by simp)).trans h
  | 2, h, hs => exact (hs 2 (by simp)).trans h
  | 3, ⟨fv, h1, h2⟩, hs => exact ⟨fv, (hs 3 (by simp)).trans h1, h2.keep (fun _ _ _ _ h => h.ext hG)⟩
  | 4, h, hs =>
    have e := hs 4 (by simp)
    show FnOk W' o (s' 4)
    rw [e]
    exact (show FnOk W o (s 4) from h).keep (fun _ _ _ _ h => h.ext hG)
  | 5, h, hs => exact (hs 5 (by simp)).trans h
  | 6, h, hs => exact (hs 6 (by simp)).trans h
  | 7, h, hs => exact (hs 7 (by simp)).trans h
  | 8, h, hs => exact (hs 8 (by simp)).trans h
  | 9, h, hs => exact (hs 9 (by simp)).trans h
  | 10, h, hs => exact (hs 10 (by simp)).trans h
  | 11, h, hs => exact (hs 11 (by simp)).trans h
  | 12, h, hs => exact (hs 12 (by simp)).trans h
  | 13, h, hs => exact (hs 13 (by simp)).trans h
  | 14, h, hs => exact (hs 14 (by simp)).trans h
  | 15, h, hs => exact (hs 15 (by simp)).trans h
  | 16, h, hs => exact (hs 16 (by simp)).trans h
  | n + 17, h, hs => exact trivial
theorem seventeen {α : Type} (fs : List α) (h : fs.length = 17) : ∃ a0 a1 a2 a3 a4 a5 a6 a7 a8 a9 a10 a11 a12 a13 a14 a15 a16, fs = [a0, a1, a2, a3, a4, a5, a6, a7, a8, a9, a10, a11, a12, a13, a14, a15, a16] := by
  match fs, h with
  | [a0, a1, a2, a3, a4, a5, a6, a7, a8, a9, a10, a11, a12, a13, a14, a15, a16], _ => exact ⟨a0, a1, a2, a3, a4, a5, a6, a7, a8, a9, a10, a11, a12, a13, a14, a15, a16, rfl⟩

end Go.Proofs.YtgkalcboklhdgaaGreatDoor

namespace Go.Proofs.YtgkalcboklhdgaaGreatDoor
open Go.RowKit
set_option linter.unusedVariables false
set_option linter.unusedSimpArgs false
open Ex

set_option maxRecDepth 100000 in
set_option maxHeartbeats 8000000 in
theorem value_any (bs : List Bn) (hbs : bnds bs = true) (pb : Option Addr) (cb : Nat) : ∀ (n : Nat) (e : Ex), e.size ≤ n → ∀ (p : Option Addr) (c : Nat) (w : World), Ex.At w p e → BAt w pb bs → e.fe = 0 → ∀ t, e.ty bs = (t, 0) →
    Gives Tryz.prog 52 #[e.val p c, .slice pb bs.length cb] w (i2V (e.ev bs)) := by
  intro n
  induction n with
  | zero => intro e he; have := e.size_pos; omega
  | succ n ih =>
    intro e he p c w hA hBA hfe tt htt
    have HSND := Lib.hid (ev_sound hbs e.size e (Nat.le_refl _) hfe tt htt)
    have HSN2 := Lib.hid (fun (x : Ex) h1 t h2 => ev_sound hbs x.size x (Nat.le_refl _) h1 t h2)
    obtain ⟨k, o, nm, v, ts⟩ := e
    have HA := Lib.hid hA
    have hl : ts.length ≤ 2199023255488 := hA.fit.2.2.2.2
    have HS := Lib.hid (fun j (h : j < ts.length) => size_get ts j h)
    have hN : (Ex.mk k o nm v ts).size = 1 + sizes ts := rfl
    have hv : (Ex.mk k o nm v ts).val p c = .agg #[.int .i64 k, .int .i64 o, sV nm, .int .i64 v, .slice p ts.length c] := rfl
    rw [hv]
    have IH := Lib.hid ih
    clear hA hv ih
    have HBA := Lib.hid hBA
    obtain ⟨hpc, hfes⟩ := fe_mk hfe
    obtain ⟨hty0, htyn⟩ := ty_mk htt
    have HTG := Lib.hid (fun j hj => mapE_get _ ts hty0 j hj)
    have HTN := Lib.hid htyn
    have HFE := Lib.hid (fun j hj => fes_get hfes j hj)
    have HM := Lib.hid (fun j h => mapE_take (Ex.ev bs) ts j h)
    have HL := Lib.hid (mapE_len (Ex.ev bs) ts)
    have HTY : (Ex.mk k o nm v ts).ev bs = if (mapE (Ex.ev bs) ts).1 ≠ 0 then (0, (mapE (Ex.ev bs) ts).1) else evN bs k o nm v (mapE (Ex.ev bs) ts).2 := by rw [← evs_map]; rfl
    have HVG := Lib.hid (fun h0 j hj => mapE_get (Ex.ev bs) ts h0 j hj)
    have HPC := Lib.hid hpc
    have HT := Lib.hid HTY
    have hl100 : ts.length ≤ 2 := by rcases pc_zero hpc with h | h | h | h <;> omega
    generalize (Ex.mk k o nm v ts).ev bs = res at *
    clear hBA hfe hfes hpc HTY htt hty0 htyn
    have hE0 : Ext w (w.alloc (.cells #[.int .i64 k, .int .i64 o, sV nm, .int .i64 v, .slice p ts.length c] 24)) := (Below.refl _ w).alloc (Nat.le_refl _) _
    have HE0 := Lib.hid hE0
    clear hE0
    unfold Gives
    go_enter Tryz.func52, Tryz.ntmps52
    go_wp2
    go_loopw [6, 18] (fun u i wr => ∃ (j : Nat), j ≤ ts.length ∧ i = .int .i64 (j : Int) ∧ RowI (w.heap.size + 1) u (mapE (Ex.ev bs) (ts.take j)).2 wr ∧ (mapE (Ex.ev bs) (ts.take j)).1 = 0 ∧ (mapE (Ex.ev bs) (ts.take j)).2.length = j ∧ Ext (w.alloc (.cells #[.int .i64 k, .int .i64 o, sV nm, .int .i64 v, .slice p ts.length c] 24)) wr) (fun _ i _ => ts.length - (intOf i).toNat)
    case atStart => exact ⟨0, Nat.zero_le _, rfl, RowI.nil _ _, rfl, rfl, Below.refl _ _⟩
    case round =>
      obtain ⟨j, hj, rfl, hrow, hm0, hmlen, hE⟩ := hrel
      obtain ⟨b0, b1, b2, b3, b4, hW⟩ := hE.box
      have HE := Lib.hid hE
      clear hE
      have HRow := Lib.hid hrow
      have HM0 := Lib.hid hm0
      have HML := Lib.hid hmlen
      clear hrow hm0 hmlen
      by_cases hlt : j < ts.length
      · obtain ⟨b, off, q, cc, rfl, hcs, hA0⟩ := HA.out.get j hlt
        obtain ⟨c0, c1, c2, c3, c4⟩ := hcs.below hW
        have hA := hA0.below hW
        clear hcs
        have hs := HS.out j hlt
        have hsz : (ts[j]).size ≤ n := by omega
        obtain ⟨htj0, htj⟩ := HTG.out j hlt
        have C := Lib.hid (fun W (hA : Ex.At W q ts[j]) (hB : BAt W pb bs) => IH.out (ts[j]) hsz q cc W hA hB (HFE.out j hlt) _ htj)
        unfold Gives at C
        obtain ⟨hno, hyes⟩ := HM.out j hlt HM0.out
        have hAbox : ∀ W, Ext wr W → Ex.At W q ts[j] := fun W h => hA.below h
        have HA2 := Lib.hid hAbox
        have HBw := Lib.hid (HBA.out.below hW)
        clear hA hAbox
        change Hid (∀ W, _ → _ → Calls _ _ #[.agg #[.int .i64 (ts[j]).kind, .int .i64 (ts[j]).op, sV (ts[j]).name, .int .i64 (ts[j]).value, .slice q (ts[j]).args.length cc], _] _ _) at C
        clear htj htj0
        generalize (ts[j]).ev bs = tj at *
        obtain ⟨t1, t2⟩ := tj
        simp only at hno hyes
        generalize (ts[j]).kind = k1 at *
        generalize (ts[j]).op = o1 at *
        generalize (ts[j]).name = n1 at *
        generalize (ts[j]).value = v1 at *
        generalize (ts[j]).args.length = l1 at *
        generalize (ts[j]).size = s1 at *
        have HY := Lib.hid hyes
        have HNo := Lib.hid hno
        clear hno hyes
        go_wp2_with fail
        refine (C.out _ (HA2.out _ ((Below.refl _ wr).alloc (Nat.le_refl _) _)) (HBw.out.below ((Below.refl _ wr).alloc (Nat.le_refl _) _))).mono ?_
        rintro e w2 ⟨rfl, hB2⟩
        unfold i2V
        have HE2 := Lib.hid (Ext.trans HE.out (Ext.trans ((Below.refl _ wr).alloc (Nat.le_refl _) _) hB2))
        have HB2 := Lib.hid hB2
        clear hB2
        by_cases hf : t2 = 0
        · subst hf
          have hY := HY.out rfl
          have hrow2 := HRow.out.ext (Ext.trans ((Below.refl _ wr).alloc (Nat.le_refl _) _) HB2.out)
          have hbase : w.heap.size + 1 ≤ w2.heap.size := by have := HE2.out.size; simp at this; omega
          have hlen10 : (mapE (Ex.ev bs) (ts.take j)).2.length ≤ 10000000000 := by rw [HML.out]; omega
          have HYl := Lib.hid hY
          generalize (mapE (Ex.ev bs) (ts.take j)).2 = lj at *
          clear hY
          go_wp2_with (at_builtin; refine wp_appI rfl _ _ (by rfl) (w.heap.size + 1) _ _ (by rfl) _ hrow2 t1 (by rfl) hlen10 hbase ?_; intro v' w3 hr3 hB3; have HB3 := Lib.hid hB3; have HR3 := Lib.hid hr3; clear hB3 hr3 hrow2)
          go_roundw
          case rel =>
            refine ⟨j + 1, by omega, by go_num, ?_, ?_, ?_, ?_⟩
            · rw [HYl.out]; exact HR3.out
            · rw [HYl.out]
            · rw [HYl.out]; simp [HML.out]
            · exact Below.trans HE2.out ((HB3.out).mono (by simp))
          case measure => simp [intOf]; omega
        · have hg1 : (t2 == 0) = false := by simpa using hf
          have hg2 : (t2 != 0) = true := by simpa using hf
          have HNE := Lib.hid hf
          have HZ := Lib.hid (show res = (0, t2) by rw [HT.out, HNo.out hf, if_pos hf])
          clear hf
          go_wp2
          go_ret2
          exact ⟨by rw [HZ.out]; rfl, Ext.trans ((Below.refl _ w).alloc (Nat.le_refl _) _) HE2.out⟩
      · have hk : ts.take j = ts := List.take_of_length_le (by omega)
        rw [hk] at HRow HM0 HML
        have hjl : j = ts.length := by omega
        have HRES := Lib.hid (show res = evN bs k o nm v (mapE (Ex.ev bs) ts).2 by rw [HT.out, if_neg (by simp [HM0.out])])
        have HVG2 := Lib.hid (fun j hj => HVG.out HM0.out j hj)
        generalize (mapE (Ex.ev bs) ts).2 = l at *
        obtain ⟨x, cx, rfl, hI, _, _⟩ := HRow.out.ints
        have HI := Lib.hid hI
        have HLL := Lib.hid (HML.out.trans hjl)
        clear hk hjl hI HRow IH HM HS HL HT HVG
        rcases pc_zero HPC.out with ⟨rfl, ho0, _, hm, hv1, hv2⟩ | ⟨rfl, _⟩ | ⟨rfl, _, _, hm, ho⟩ | ⟨rfl, _, _, hm, ho1, ho2⟩
        · have HZ := Lib.hid (show res = (v, 0) by rw [HRES.out]; rfl)
          have hin : inM v := ⟨by omega, by omega⟩
          have hnA : decide ((1099511627776 : Int) < (v.natAbs : Int)) = false := by simp; omega
          have AB := Lib.hid (abs_any v hin)
          clear hin hv1 hv2 ho0 hm
          go_wp2_with fail
          refine (AB.out _).mono ?_
          rintro e w' ⟨rfl, rfl⟩
          generalize (v.natAbs : Int) = ra at *
          go_wp2
          go_ret2
          exact ⟨by rw [HZ.out]; rfl, hW⟩
        · have F := Lib.hid (find_any bs pb cb nm wr (HBA.out.below hW))
          unfold Gives fdV at F
          have HZ := Lib.hid (show res = ((fdB bs nm).value, 0) by rw [HRES.out]; rfl)
          have hin : inM (fdB bs nm).value := (HSND.out.2 _ HZ.out).1
          have hnA : decide ((1099511627776 : Int) < ((fdB bs nm).value.natAbs : Int)) = false := by have := hin.1; have := hin.2; simp; omega
          have AB := Lib.hid (abs_any _ hin)
          have hv2 : (fdB bs nm).val = .agg #[sV (fdB bs nm).name, .int .i64 (fdB bs nm).type, .int .i64 (fdB bs nm).value] := rfl
          rw [hv2] at F
          generalize (fdB bs nm).name = fn at *
          generalize (fdB bs nm).type = ft at *
          generalize (fdB bs nm).value = fv at *
          generalize fdIs bs nm = fi at *
          clear hv2 hin
          go_wp2_with fail
          refine F.out.mono ?_
          rintro e w4 ⟨rfl, hB4⟩
          go_wp2_with fail
          refine (AB.out _).mono ?_
          rintro e w' ⟨rfl, rfl⟩
          generalize (fv.natAbs : Int) = ra at *
          go_wp2
          go_ret2
          exact ⟨by rw [HZ.out]; rfl, Ext.trans hW (Ext.trans hB4 ((Below.refl _ w4).alloc (Nat.le_refl _) _))⟩
        · have hll : l.length = 1 := HLL.out.trans hm
          obtain ⟨x0, rfl⟩ : ∃ x0, l = [x0] := List.length_eq_one_iff.1 hll
          obtain ⟨xb, xo, rfl, hx0⟩ := HI.out 0 (by simp)
          simp only [List.getElem_cons_zero] at hx0
          have hx0' : wr.cell? ⟨xb, xo, none⟩ = some (.int .i64 x0) := hx0
          have hlt0 : 0 < ts.length := by omega
          obtain ⟨_, hvv⟩ := HVG2.out 0 hlt0
          obtain ⟨_, htt⟩ := HTG.out 0 hlt0
          have hinx : inM x0 := ((HSN2.out _ (HFE.out 0 hlt0) _ htt).2 _ hvv).1
          have hR : inM (if o = 2 then 1 - x0 else -x0) := (HSND.out.2 _ (HRES.out.trans rfl)).1
          have hx1 := hinx.1
          have hx2 := hinx.2
          clear hx0 hll HI HLL hm hvv htt hlt0 hinx
          rcases ho with rfl | rfl
          · have HZ := Lib.hid (show res = (-x0, 0) by rw [HRES.out]; rfl)
            have hin : inM (-x0) := by simpa using hR
            have hnA : decide ((1099511627776 : Int) < ((-x0).natAbs : Int)) = false := by have := hin.1; have := hin.2; simp only [decide_eq_false_iff_not]; omega
            have AB := Lib.hid (abs_any _ hin)
            clear hin hR
            go_wp2_with fail
            refine (AB.out _).mono ?_
            rintro e w' ⟨rfl, rfl⟩
            generalize ((-x0).natAbs : Int) = ra at *
            go_wp2
            go_ret2
            exact ⟨by rw [HZ.out]; rfl, hW⟩
          · have HZ := Lib.hid (show res = (1 - x0, 0) by rw [HRES.out]; rfl)
            have hin : inM (1 - x0) := by simpa using hR
            have hnA : decide ((1099511627776 : Int) < ((1 - x0).natAbs : Int)) = false := by have := hin.1; have := hin.2; simp only [decide_eq_false_iff_not]; omega
            have AB := Lib.hid (abs_any _ hin)
            clear hin hR
            go_wp2_with fail
            refine (AB.out _).mono ?_
            rintro e w' ⟨rfl, rfl⟩
            generalize ((1 - x0).natAbs : Int) = ra at *
            go_wp2
            go_ret2
            exact ⟨by rw [HZ.out]; rfl, hW⟩
        · have hll : l.length = 2 := HLL.out.trans hm
          obtain ⟨x0, x1, rfl⟩ : ∃ x0 x1, l = [x0, x1] := len2 hll
          obtain ⟨xb, xo, rfl, hx0⟩ := HI.out 0 (by simp)
          obtain ⟨xb', xo', hxe, hx1⟩ := HI.out 1 (by simp)
          cases hxe
          have HY0 := Lib.hid (show wr.cell? ⟨xb, xo, none⟩ = some (.int .i64 x0) from hx0)
          have HY1 := Lib.hid (show wr.cell? ⟨xb, xo + 1, none⟩ = some (.int .i64 x1) from hx1)
          have hk : knownB o = true := by unfold knownB; simp; omega
          have hlt0 : 0 < ts.length := by omega
          have hlt1 : 1 < ts.length := by omega
          obtain ⟨_, hv0⟩ := HVG2.out 0 hlt0
          obtain ⟨_, ht0⟩ := HTG.out 0 hlt0
          obtain ⟨_, hv1⟩ := HVG2.out 1 hlt1
          obtain ⟨_, ht1⟩ := HTG.out 1 hlt1
          have hin0 : inM x0 := ((HSN2.out _ (HFE.out 0 hlt0) _ ht0).2 _ hv0).1
          have hin1 : inM x1 := ((HSN2.out _ (HFE.out 1 hlt1) _ ht1).2 _ hv1).1
          have hbx : wr.heap[w.heap.size]? = some (.cells #[.int .i64 4, .int .i64 o, sV nm, .int .i64 v, .slice p ts.length c] tEx (0, 0)) := (HE.out.below.block _ (by simp)).trans (alloc_here _ _)
          clear hx0 hx1 hll HI HLL hm b1 b2 b3 b4 hv0 hv1 ht0 ht1 hlt0 hlt1
          go_wp2
          have hltx := lt_of_block hbx
          refine wp_region_g (by kernel_rfl) Ext (fun W => (⟨rfl, rfl, rfl, Nat.le_refl _, fun _ _ => rfl⟩ : Ext W { W with drawn := W.drawn + 1 })) Ext.trans (vl12 w.heap.size xb xo cx o x0 x1) (fun j => [j]) (vl12_st w.heap.size xb xo cx o x0 x1) (by kernel_rfl) (by kernel_rfl) (by kernel_rfl) 92 rfl (by kernel_rfl) ?_ ?_
          · intro i op ho a' W hA
            have hb : W.heap[w.heap.size]? = some (.cells #[.int .i64 4, .int .i64 o, sV nm, .int .i64 v, .slice p ts.length c] tEx (0, 0)) := (hA.rel.below.block _ hltx).trans hbx
            have c1 : W.cell? ⟨w.heap.size, 1, none⟩ = some (.int .i64 o) := cell_of hb rfl
            have y0 : W.cell? ⟨xb, xo, none⟩ = some (.int .i64 x0) := (hA.rel.below.cell (p := ⟨xb, xo, none⟩) (Ex.cell_lt' HY0.out)).trans HY0.out
            have y1 : W.cell? ⟨xb, xo + 1, none⟩ = some (.int .i64 x1) := (hA.rel.below.cell (p := ⟨xb, xo + 1, none⟩) (Ex.cell_lt' HY1.out)).trans HY1.out
            match i, ho with
            | 0, ho =>
              obtain rfl := Option.some.inj ho
              refine GoesG.call 63 #[] rfl ?_ ((operators_any W).mono ?_)
              · simp [execOp, resolve, invoke, Deferred.ofValue]
                rfl
              · rintro e W1 ⟨b, rfl, hO, hE⟩
                exact ⟨_, rfl, hE, fun s h1 h2 => ⟨b, h1 rfl, hO⟩⟩
            | 1, ho =>
              obtain rfl := Option.some.inj ho
              have e1 : a'.eval (.tmp 2) = .pointer (some ⟨w.heap.size, 0, none⟩) := hA.keep 2 (by kernel_rfl)
              refine GoesG.value (.pointer (some ⟨w.heap.size, 1, none⟩)) rfl ?_ (Below.refl _ _) (fun s h1 h2 => h1 rfl)
              simp only [execOp, e1]
              simp [go_sem]
            | 2, ho =>
              obtain rfl := Option.some.inj ho
              have e1 : a'.eval (.tmp 40) = .pointer (some ⟨w.heap.size, 1, none⟩) := (sv_dst (l := _) rfl).symm.trans (hA.new 1 (by decide) (by kernel_rfl))
              refine GoesG.value (.int .i64 o) rfl ?_ (Below.refl _ _) (fun s h1 h2 => h1 rfl)
              simp only [execOp, e1]
              simp [go_sem, c1]
            | 3, ho =>
              obtain rfl := Option.some.inj ho
              obtain ⟨b, e0, hO⟩ := hA.new 0 (by decide) (by kernel_rfl)
              have e1 : a'.eval (.tmp 39) = .map (some b) := (sv_dst (l := _) rfl).symm.trans e0
              have e2 : a'.eval (.tmp 41) = .int .i64 o := (sv_dst (l := _) rfl).symm.trans (hA.new 2 (by decide) (by kernel_rfl))
              obtain ⟨fv, hf, hr⟩ := ops_yes hO o hk
              have hrun := hr false
              refine GoesG.value ((opOf o).val fv) rfl ?_ (Below.refl _ _) (fun s h1 h2 => ⟨fv, h1 rfl, hf⟩)
              simp only [execOp, e1, e2, Sem.run_bind, hrun, Result.andThen_ok, Sem.run_pure]
              rfl
            | 4, ho =>
              obtain rfl := Option.some.inj ho
              obtain ⟨fv, e0, hf⟩ := hA.new 3 (by decide) (by kernel_rfl)
              have e1 : a'.eval (.tmp 42) = .agg #[sV (opOf o).sign, .int .i64 (opOf o).prec, .int .i64 (opOf o).arg, .int .i64 (opOf o).res, fv] := (sv_dst (l := _) rfl).symm.trans e0
              refine GoesG.value fv rfl ?_ (Below.refl _ _) (fun s h1 h2 => by show FnOk W o (s 4); rw [h1 rfl]; exact hf)
              simp only [execOp, e1]
              rfl
            | 5, ho =>
              obtain rfl := Option.some.inj ho
              have e1 : a'.eval (.tmp 6) = .slice (some ⟨xb, xo, none⟩) 2 cx := hA.keep 6 (by kernel_rfl)
              exact GoesG.move (.tmp 6) rfl rfl (Below.refl _ _) (fun s h1 h2 => (h1 rfl).trans e1)
            | 6, ho =>
              obtain rfl := Option.some.inj ho
              have e1 : a'.eval (.tmp 44) = .slice (some ⟨xb, xo, none⟩) 2 cx := (sv_dst (l := _) rfl).symm.trans (hA.new 5 (by decide) (by kernel_rfl))
              refine GoesG.value (.pointer (some ⟨xb, xo, none⟩)) rfl ?_ (Below.refl _ _) (fun s h1 h2 => h1 rfl)
              simp only [execOp, e1]
              simp [go_sem]
            | 7, ho =>
              obtain rfl := Option.some.inj ho
              have e1 : a'.eval (.tmp 45) = .pointer (some ⟨xb, xo, none⟩) := (sv_dst (l := _) rfl).symm.trans (hA.new 6 (by decide) (by kernel_rfl))
              refine GoesG.value (.int .i64 x0) rfl ?_ (Below.refl _ _) (fun s h1 h2 => h1 rfl)
              simp only [execOp, e1]
              simp [go_sem, y0]
            | 8, ho =>
              obtain rfl := Option.some.inj ho
              have e1 : a'.eval (.tmp 6) = .slice (some ⟨xb, xo, none⟩) 2 cx := hA.keep 6 (by kernel_rfl)
              exact GoesG.move (.tmp 6) rfl rfl (Below.refl _ _) (fun s h1 h2 => (h1 rfl).trans e1)
            | 9, ho =>
              obtain rfl := Option.some.inj ho
              have e1 : a'.eval (.tmp 47) = .slice (some ⟨xb, xo, none⟩) 2 cx := (sv_dst (l := _) rfl).symm.trans (hA.new 8 (by decide) (by kernel_rfl))
              refine GoesG.value (.pointer (some ⟨xb, xo + 1, none⟩)) rfl ?_ (Below.refl _ _) (fun s h1 h2 => h1 rfl)
              simp only [execOp, e1]
              simp [go_sem]
            | 10, ho =>
              obtain rfl := Option.some.inj ho
              have e1 : a'.eval (.tmp 48) = .pointer (some ⟨xb, xo + 1, none⟩) := (sv_dst (l := _) rfl).symm.trans (hA.new 9 (by decide) (by kernel_rfl))
              refine GoesG.value (.int .i64 x1) rfl ?_ (Below.refl _ _) (fun s h1 h2 => h1 rfl)
              simp only [execOp, e1]
              simp [go_sem, y1]
            | 11, ho =>
              obtain rfl := Option.some.inj ho
              have e0 : FnOk W o (sv _ a' 4) := hA.new 4 (by decide) (by kernel_rfl)
              obtain ⟨f, cap, ef, en, hcall⟩ := fn_any e0 x0 x1 hin0 hin1
              have e1 : a'.eval (.tmp 43) = .func (.func f) #[] cap := (sv_dst (l := _) rfl).symm.trans ef
              have e2 : a'.eval (.tmp 46) = .int .i64 x0 := (sv_dst (l := _) rfl).symm.trans (hA.new 7 (by decide) (by kernel_rfl))
              have e3 : a'.eval (.tmp 49) = .int .i64 x1 := (sv_dst (l := _) rfl).symm.trans (hA.new 10 (by decide) (by kernel_rfl))
              have HC := hcall W (Below.refl _ _)
              unfold DoesIn at HC
              generalize har : (#[Value.int .i64 x0, Value.int .i64 x1] ++ cap) = ar at *
              refine GoesG.call f ar rfl ?_ (HC.mono ?_)
              · rw [← har]
                simp [execOp, resolve, invoke, Deferred.ofValue, e1, e2, e3, en]
              · rintro e W1 ⟨rfl, rfl⟩
                exact ⟨_, rfl, Below.refl _ _, fun s h1 h2 => h1 rfl⟩
            | 12, ho =>
              obtain rfl := Option.some.inj ho
              have e1 : a'.eval (.tmp 50) = i2V (opR o x0 x1) := (sv_dst (l := _) rfl).symm.trans (hA.new 11 (by decide) (by kernel_rfl))
              exact GoesG.move (.tmp 50) rfl rfl (Below.refl _ _) (fun s h1 h2 => (h1 rfl).trans e1)
            | 13, ho =>
              obtain rfl := Option.some.inj ho
              have e1 : a'.eval (.tmp 38) = i2V (opR o x0 x1) := (sv_dst (l := _) rfl).symm.trans (hA.new 12 (by decide) (by kernel_rfl))
              refine GoesG.value (.int .i64 (opR o x0 x1).1) rfl ?_ (Below.refl _ _) (fun s h1 h2 => h1 rfl)
              simp only [execOp, e1]
              simp [go_sem, i2V]
            | 14, ho =>
              obtain rfl := Option.some.inj ho
              have e1 : a'.eval (.tmp 38) = i2V (opR o x0 x1) := (sv_dst (l := _) rfl).symm.trans (hA.new 12 (by decide) (by kernel_rfl))
              refine GoesG.value (.int .i64 (opR o x0 x1).2) rfl ?_ (Below.refl _ _) (fun s h1 h2 => h1 rfl)
              simp only [execOp, e1]
              simp [go_sem, i2V]
            | 15, ho =>
              obtain rfl := Option.some.inj ho
              have e2 : a'.eval (.tmp 51) = .int .i64 (opR o x0 x1).1 := (sv_dst (l := _) rfl).symm.trans (hA.new 13 (by decide) (by kernel_rfl))
              exact GoesG.assign (.tmp 51) rfl rfl (Below.refl _ _) (fun s h1 h2 => (h1 rfl).trans e2)
            | 16, ho =>
              obtain rfl := Option.some.inj ho
              have e2 : a'.eval (.tmp 52) = .int .i64 (opR o x0 x1).2 := (sv_dst (l := _) rfl).symm.trans (hA.new 14 (by decide) (by kernel_rfl))
              exact GoesG.assign (.tmp 52) rfl rfl (Below.refl _ _) (fun s h1 h2 => (h1 rfl).trans e2)
            | i + 17, ho => cases ho
          · intro vs W3 hvs hW3 hΦ
            obtain ⟨u0, u1, u2, u3, u4, u5, u6, u7, u8, u9, u10, u11, u12, u13, u14, u15, u16, rfl⟩ := seventeen vs hvs
            have h15 : u15 = .int .i64 (opR o x0 x1).1 := hΦ 15 (by decide)
            have h16 : u16 = .int .i64 (opR o x0 x1).2 := hΦ 16 (by decide)
            subst h15 h16
            have HWW := Lib.hid (Ext.trans hW hW3)
            clear hΦ hvs hW3 hbx hW HY0 HY1 hltx
            simp only [putAll, Act.put, List.setIfInBounds_toArray, List.set_cons_succ, List.set_cons_zero]
            have HOE := Lib.hid (show opE o x0 x1 = if (opR o x0 x1).2 ≠ 0 then (0, (opR o x0 x1).2) else if inM (opR o x0 x1).1 then ((opR o x0 x1).1, 0) else (0, 14) from rfl)
            have HBD := Lib.hid (opR_bd ho1 ho2 hin0 hin1)
            have HR2 := Lib.hid (show res = opE o x0 x1 by rw [HRES.out]; rfl)
            clear ho1 ho2 hin0 hin1 HRES
            generalize opE o x0 x1 = re at *
            generalize (opR o x0 x1).1 = r1 at *
            generalize (opR o x0 x1).2 = r2 at *
            by_cases h0 : r2 = 0
            · subst h0
              obtain ⟨q1, q2⟩ := HBD.out rfl
              have AB := Lib.hid (abs_wide r1 q1 q2)
              by_cases hin : inM r1
              · have HZ := Lib.hid (show res = (r1, 0) by rw [HR2.out, HOE.out]; simp [hin])
                have hnA : decide ((1099511627776 : Int) < (r1.natAbs : Int)) = false := by have := hin.1; have := hin.2; simp; omega
                clear hin q1 q2
                go_wp2_with fail
                refine (AB.out _).mono ?_
                rintro e w' ⟨rfl, rfl⟩
                generalize (r1.natAbs : Int) = ra at *
                go_wp2
                go_ret2
                exact ⟨by rw [HZ.out]; rfl, HWW.out⟩
              · have HZ := Lib.hid (show res = (0, 14) by rw [HR2.out, HOE.out]; simp [hin])
                have hnA : (1099511627776 : Int) < (r1.natAbs : Int) := by unfold inM at hin; omega
                clear hin q1 q2
                go_wp2_with fail
                refine (AB.out _).mono ?_
                rintro e w' ⟨rfl, rfl⟩
                generalize (r1.natAbs : Int) = ra at *
                go_wp2
                go_ret2
                exact ⟨by rw [HZ.out]; rfl, HWW.out⟩
            · have HZ := Lib.hid (show res = (0, r2) by rw [HR2.out, HOE.out, if_pos h0])
              have hg1 : (r2 == 0) = false := by simpa using h0
              have hg2 : (r2 != 0) = true := by simpa using h0
              clear h0
              go_wp2
              go_ret2
              exact ⟨by rw [HZ.out]; rfl, HWW.out⟩

end Go.Proofs.YtgkalcboklhdgaaGreatDoor

namespace Go.Proofs.YtgkalcboklhdgaaGreatDoor
open Go.RowKit
set_option linter.unusedVariables false
set_option linter.unusedSimpArgs false
open Ex

end Go.Proofs.YtgkalcboklhdgaaGreatDoor

namespace Go.Proofs.YtgkalcboklhdgaaGreatDoor
open Go.RowKit
set_option linter.unusedVariables false
set_option linter.unusedSimpArgs false
open Ex

/-- what Eval returns -/
def evR (bs : List Bn) (e : Ex) : Int × Int := if (tyR bs e).2 ≠ 0 then (0, (tyR bs e).2) else e.ev bs

set_option maxHeartbeats 1000000 in
theorem Eval_any (bs : List Bn) (pb : Option Addr) (cb : Nat) (e : Ex) (p : Option Addr) (c : Nat) (w : World) (hA : Ex.At w p e) (hB : BAt w pb bs) :
    Gives Tryz.prog 25 #[e.val p c, .slice pb bs.length cb] w (i2V (evR bs e)) := by
  have C1 := Lib.hid (fun W (h : Ext w W) => show Gives _ _ #[.agg #[.int .i64 e.kind, .int .i64 e.op, sV e.name, .int .i64 e.value, .slice p e.args.length c], _] _ _ from Type_any bs pb cb e p c W (hA.below h) (hB.below h))
  have C3 := Lib.hid (fun (hz : (tyR bs e).2 = 0) W (h : Ext w W) => show Gives _ _ #[.agg #[.int .i64 e.kind, .int .i64 e.op, sV e.name, .int .i64 e.value, .slice p e.args.length c], _] _ _ from
    value_any bs (tyR_zero hz).2.1 pb cb e.size e (Nat.le_refl _) p c W (hA.below h) (hB.below h) (chk_zero (tyR_zero hz).1).2.2 (e.ty bs).1 (by have h1 := (tyR_zero hz).2.2; rw [h1] at hz; rw [← hz]))
  have HT := Lib.hid (show evR bs e = if (tyR bs e).2 ≠ 0 then (0, (tyR bs e).2) else e.ev bs from rfl)
  generalize evR bs e = r at *
  generalize tyR bs e = tr at *
  obtain ⟨t1, t2⟩ := tr
  unfold Gives Ex.val
  generalize e.kind = k1 at *
  generalize e.op = o1 at *
  generalize e.name = n1 at *
  generalize e.value = v1 at *
  generalize e.args.length = l1 at *
  generalize e.ev bs = ve at *
  obtain ⟨v2, v3⟩ := ve
  clear hA hB
  unfold i2V at C1 C3 ⊢
  simp only at C1 C3
  by_cases h1 : t2 = 0
  · have C3' := Lib.hid (C3.out h1)
    have HR := Lib.hid (show r = (v2, v3) by rw [HT.out, if_neg (by simpa using h1)])
    subst h1
    clear C3 HT
    go_enter Tryz.func25, Tryz.ntmps25
    go_wp2_with fail
    refine (C1.out _ ((Below.refl _ w).alloc (Nat.le_refl _) _)).mono ?_
    intro w1 hB1
    obtain ⟨b0, b1, b2, b3, b4, hW⟩ := Ext.box hB1
    have HW := Lib.hid hW
    clear hB1 C1 hW
    go_wp2_with fail
    refine (C3'.out _ HW.out).mono ?_
    intro w3 hB3
    go_wp2
    go_ret2
    exact ⟨by rw [HR.out]; rfl, Ext.trans HW.out hB3⟩
  · have hg1 : (t2 == 0) = false := by simpa using h1
    have hg2 : (t2 != 0) = true := by simpa using h1
    have HR := Lib.hid (show r = (0, t2) by rw [HT.out, if_pos (by simpa using h1)])
    clear h1 HT C3
    go_enter Tryz.func25, Tryz.ntmps25
    go_wp2_with fail
    refine (C1.out _ ((Below.refl _ w).alloc (Nat.le_refl _) _)).mono ?_
    intro w1 hB1
    go_wp2
    go_ret2
    exact ⟨by rw [HR.out]; rfl, Ext.trans ((Below.refl _ w).alloc (Nat.le_refl _) _) hB1⟩

end Go.Proofs.YtgkalcboklhdgaaGreatDoor

namespace Go.Proofs.YtgkalcboklhdgaaGreatDoor
open Go.RowKit
set_option linter.unusedVariables false
set_option linter.unusedSimpArgs false

namespace Ex
mutual
/-- the arguments of e lie at p, in blocks of S -/
def AtB (S : Nat → Prop) (w : World) (p : Option Addr) : Ex → Prop
  | .mk k o n x ts => fits (.mk k o n x ts) ∧ AtBL S w p 0 ts
def AtBL (S : Nat → Prop) (w : World) (p : Option Addr) (i : Nat) : List Ex → Prop
  | [] => True
  | e :: es => (∃ b o q c, p = some ⟨b, o, none⟩ ∧ S b ∧ cells w b (o + i * 5) e q c ∧ AtB S w q e) ∧ AtBL S w p (i + 1) es
end
mutual
theorem AtB.at {S : Nat → Prop} {w : World} : ∀ {p : Option Addr} {e : Ex}, AtB S w p e → Ex.At w p e
  | _, .mk _ _ _ _ _, h => ⟨h.1, AtBL.at h.2⟩
theorem AtBL.at {S : Nat → Prop} {w : World} : ∀ {p : Option Addr} {i : Nat} {es : List Ex}, AtBL S w p i es → AtL w p i es
  | _, _, [], _ => trivial
  | _, _, _ :: _, ⟨⟨b, o, q, c, e1, _, e2, e3⟩, h2⟩ => ⟨⟨b, o, q, c, e1, e2, AtB.at e3⟩, AtBL.at h2⟩
end
mutual
theorem At.toB {w : World} : ∀ {p : Option Addr} {e : Ex}, Ex.At w p e → AtB (· < w.heap.size) w p e
  | _, .mk _ _ _ _ _, h => ⟨h.1, AtL.toB h.2⟩
theorem AtL.toB {w : World} : ∀ {p : Option Addr} {i : Nat} {es : List Ex}, AtL w p i es → AtBL (· < w.heap.size) w p i es
  | _, _, [], _ => trivial
  | _, _, _ :: _, ⟨⟨b, o, q, c, e1, e2, e3⟩, h2⟩ => ⟨⟨b, o, q, c, e1, cell_lt' e2.1, e2, At.toB e3⟩, AtL.toB h2⟩
end
theorem cells.block {w W : World} {b o : Nat} {e : Ex} {p : Option Addr} {c : Nat} (h : cells w b o e p c) (hb : W.heap[b]? = w.heap[b]?) : cells W b o e p c := by
  have hc : ∀ i, W.cell? ⟨b, i, none⟩ = w.cell? ⟨b, i, none⟩ := fun i => by unfold World.cell?; simp only [hb]
  obtain ⟨h0, h1, h2, h3, h4⟩ := h
  exact ⟨(hc _).trans h0, (hc _).trans h1, (hc _).trans h2, (hc _).trans h3, (hc _).trans h4⟩
mutual
/-- another class, another world: the blocks that e lies in are as they were -/
theorem AtB.keep {S S' : Nat → Prop} {w W : World} (hS : ∀ b, S b → b < w.heap.size → S' b ∧ W.heap[b]? = w.heap[b]?) : ∀ {p : Option Addr} {e : Ex}, AtB S w p e → AtB S' W p e
  | _, .mk _ _ _ _ _, h => ⟨h.1, AtBL.keep hS h.2⟩
theorem AtBL.keep {S S' : Nat → Prop} {w W : World} (hS : ∀ b, S b → b < w.heap.size → S' b ∧ W.heap[b]? = w.heap[b]?) : ∀ {p : Option Addr} {i : Nat} {es : List Ex}, AtBL S w p i es → AtBL S' W p i es
  | _, _, [], _ => trivial
  | _, _, _ :: _, ⟨⟨b, o, q, c, e1, e0, e2, e3⟩, h2⟩ => ⟨⟨b, o, q, c, e1, (hS b e0 (cell_lt' e2.1)).1, e2.block (hS b e0 (cell_lt' e2.1)).2, AtB.keep hS e3⟩, AtBL.keep hS h2⟩
end
theorem AtB.ext {S : Nat → Prop} {w W : World} {p : Option Addr} {e : Ex} (h : AtB S w p e) (hE : Ext w W) : AtB S W p e := h.keep (fun b hb hl => ⟨hb, hE.below.block b hl⟩)
theorem AtB.imp {S S' : Nat → Prop} {w : World} {p : Option Addr} {e : Ex} (h : AtB S w p e) (hS : ∀ b, S b → b < w.heap.size → S' b) : AtB S' w p e := h.keep (fun b hb hl => ⟨hS b hb hl, rfl⟩)
theorem AtB.fit {S : Nat → Prop} {w : World} {p : Option Addr} {e : Ex} (h : AtB S w p e) : fits e := by cases e; exact h.1
theorem AtBL.get {S : Nat → Prop} {w : World} {p : Option Addr} {es : List Ex} : ∀ {i : Nat}, AtBL S w p i es → ∀ j (h : j < es.length), ∃ b o q c, p = some ⟨b, o, none⟩ ∧ S b ∧ cells w b (o + (i + j) * 5) es[j] q c ∧ AtB S w q es[j] := by
  induction es with
  | nil => intro i h j hj; simp at hj
  | cons e es ih =>
    intro i h j hj
    obtain ⟨h1, h2⟩ := h
    cases j with
    | zero => exact h1
    | succ j =>
      obtain ⟨b, o, q, c, e1, e2, e3, e4⟩ := ih h2 j (by simpa using hj)
      exact ⟨b, o, q, c, e1, e2, by rw [show i + (j + 1) = i + 1 + j by omega]; exact e3, e4⟩
theorem AtBL.of_get {S : Nat → Prop} {w : World} {b o : Nat} {es : List Ex} (hb : es ≠ [] → S b) : ∀ {i : Nat}, (∀ j (h : j < es.length), ∃ q c, cells w b (o + (i + j) * 5) es[j] q c ∧ AtB S w q es[j]) → AtBL S w (some ⟨b, o, none⟩) i es := by
  induction es with
  | nil => intro i _; trivial
  | cons e es ih =>
    intro i h
    obtain ⟨q, c, h1, h2⟩ := h 0 (by simp)
    refine ⟨⟨b, o, q, c, rfl, hb (by simp), h1, h2⟩, ih (fun hne => hb (by simp)) (fun j hj => ?_)⟩
    obtain ⟨q, c, h1, h2⟩ := h (j + 1) (by simpa using hj)
    exact ⟨q, c, by rw [show i + 1 + j = i + (j + 1) by omega]; exact h1, h2⟩
end Ex

/-- an expression, and where its arguments lie -/
abbrev XE := Ex × Option Addr × Nat
/-- the cells of an element -/
def ec (r : XE) : List Value := [.int .i64 r.1.kind, .int .i64 r.1.op, sV r.1.name, .int .i64 r.1.value, .slice r.2.1 r.1.args.length r.2.2]
def rowC (rs : List XE) : List Value := rs.flatMap ec
theorem rowC_length (rs : List XE) : (rowC rs).length = rs.length * 5 := by
  induction rs with
  | nil => rfl
  | cons r rs ih => simp only [rowC, List.flatMap_cons, List.length_append] at ih ⊢; rw [ih]; simp [ec]; omega
theorem rowC_get (rs : List XE) (j i : Nat) (hj : j < rs.length) (hi : i < 5) : (rowC rs)[j * 5 + i]? = (ec rs[j])[i]? := by
  induction rs generalizing j with
  | nil => simp at hj
  | cons r rs ih =>
    simp only [rowC, List.flatMap_cons] at ih ⊢
    cases j with
    | zero => rw [List.getElem?_append_left (by simp [ec]; omega)]; simp
    | succ j =>
      rw [List.getElem?_append_right (by simp [ec]; omega)]
      have : (j + 1) * 5 + i - (ec r).length = j * 5 + i := by simp [ec]; omega
      rw [this, ih j (by simpa using hj)]
      simp
theorem rowC_one (rs : List XE) : ∀ u ∈ rowC rs, u.oneCell' = true := by
  intro u hu
  obtain ⟨r, _, h⟩ := List.mem_flatMap.1 hu
  simp only [ec, List.mem_cons, List.not_mem_nil, or_false] at h
  rcases h with rfl | rfl | rfl | rfl | rfl <;> rfl
theorem rowC_app (a b : List XE) : rowC (a ++ b) = rowC a ++ rowC b := by simp [rowC]
/-- the cells of a row, one element replaced -/
theorem rowC_set (rs : List XE) (j : Nat) (hj : j < rs.length) (r : XE) : (((((rowC rs).set (j * 5) (.int .i64 r.1.kind)).set (j * 5 + 1) (.int .i64 r.1.op)).set (j * 5 + 2) (sV r.1.name)).set (j * 5 + 3) (.int .i64 r.1.value)).set (j * 5 + 4) (.slice r.2.1 r.1.args.length r.2.2) = rowC (rs.set j r) := by
  induction rs generalizing j with
  | nil => simp at hj
  | cons x rs ih =>
    cases j with
    | zero => simp [rowC, ec]
    | succ j =>
      have := ih j (by simpa using hj)
      have h5 : (j + 1) * 5 = j * 5 + 1 + 1 + 1 + 1 + 1 := by omega
      simp only [rowC, List.flatMap_cons, List.set_cons_succ] at this ⊢
      rw [← this, h5]
      simp [ec]
/-- v is a row of expressions of the call's own -/
def RowE (base : Nat) (v : Value) (rs : List XE) (w : World) : Prop := w.ownsRow base tEx 5 v rs.length (rowC rs)
theorem infoEx : (Tryz.prog.info? 24).map (fun i => (i.zero, i.size, i.bytes)) = some (some (.agg #[.int .i64 0, .int .i64 0, sV [], .int .i64 0, .slice none 0 0]), 5, 64) := by kernel_rfl
theorem RowE.ext {base : Nat} {v : Value} {rs : List XE} {w w' : World} (h : RowE base v rs w) (hb : Ext w w') : RowE base v rs w' := ownsRow_extI h hb
theorem RowE.forms {base : Nat} {v : Value} {rs : List XE} {w : World} (h : RowE base v rs w) : (v = .slice none 0 0 ∧ rs = []) ∨ ∃ g cap, v = .slice (some ⟨g, 0, none⟩) rs.length cap ∧ base ≤ g ∧ g < w.heap.size := by
  rcases Go.Joins.ownsRow_forms h with ⟨h1, h2⟩ | ⟨g, cap, h1⟩
  · exact .inl ⟨h1, List.eq_nil_of_length_eq_zero h2⟩
  · subst h1
    exact .inr ⟨g, cap, rfl, World.ownsRow.lt h g rfl⟩
theorem RowE.cells {base g cap : Nat} {rs : List XE} {w : World} (h : RowE base (.slice (some ⟨g, 0, none⟩) rs.length cap) rs w) (j : Nat) (hj : j < rs.length) : Ex.cells w g (j * 5) rs[j].1 rs[j].2.1 rs[j].2.2 := by
  have hc : ∀ i, i < 5 → w.cell? ⟨g, j * 5 + i, none⟩ = (ec rs[j])[i]? := fun i hi => by
    rw [World.ownsRow.cellAt h (j * 5 + i) (by omega), rowC_get rs j i hj hi]
  exact ⟨hc 0 (by omega), hc 1 (by omega), hc 2 (by omega), hc 3 (by omega), hc 4 (by omega)⟩
/-- the world behind a store of a whole element -/
def set5 (w : World) (g o : Nat) (r : XE) : World :=
  ((((w.setCell ⟨g, o, none⟩ (.int .i64 r.1.kind)).setCell ⟨g, o + 1, none⟩ (.int .i64 r.1.op)).setCell ⟨g, o + 2, none⟩ (sV r.1.name)).setCell ⟨g, o + 3, none⟩ (.int .i64 r.1.value)).setCell ⟨g, o + 4, none⟩ (.slice r.2.1 r.1.args.length r.2.2)
theorem RowE.store {base g cap : Nat} {rs : List XE} {w : World} (h : RowE base (.slice (some ⟨g, 0, none⟩) rs.length cap) rs w) (j : Nat) (hj : j < rs.length) (r : XE) : RowE base (.slice (some ⟨g, 0, none⟩) (rs.set j r).length cap) (rs.set j r) (set5 w g (j * 5) r) := by
  unfold RowE set5
  rw [List.length_set, ← rowC_set rs j hj r]
  exact (World.ownsRow.stored (World.ownsRow.stored (World.ownsRow.stored (World.ownsRow.stored (World.ownsRow.stored h _ _).1 _ _).1 _ _).1 _ _).1 _ _).1
theorem set5_below {w : World} {g o n₀ : Nat} {r : XE} (h : n₀ ≤ g) : Below n₀ w (set5 w g o r) := by
  unfold set5
  exact (((((Below.refl n₀ w).setCell (p := ⟨g, o, none⟩) h _).setCell (p := ⟨g, o + 1, none⟩) h _).setCell (p := ⟨g, o + 2, none⟩) h _).setCell (p := ⟨g, o + 3, none⟩) h _).setCell (p := ⟨g, o + 4, none⟩) h _
theorem set5_other {w : World} {g o b : Nat} {r : XE} (h : b ≠ g) : (set5 w g o r).heap[b]? = w.heap[b]? := by
  unfold set5
  rw [Below.heap_setCell _ ⟨g, o + 4, none⟩ _ _ h, Below.heap_setCell _ ⟨g, o + 3, none⟩ _ _ h, Below.heap_setCell _ ⟨g, o + 2, none⟩ _ _ h, Below.heap_setCell _ ⟨g, o + 1, none⟩ _ _ h, Below.heap_setCell _ ⟨g, o, none⟩ _ _ h]
theorem set5_size {w : World} {g o : Nat} {r : XE} : (set5 w g o r).heap.size = w.heap.size := by unfold set5; simp [World.setCell]

end Go.Proofs.YtgkalcboklhdgaaGreatDoor

namespace Go.Proofs.YtgkalcboklhdgaaGreatDoor
open Go.RowKit
set_option linter.unusedVariables false
set_option linter.unusedSimpArgs false

theorem rows_of {S : Nat → Prop} {w : World} {p : Option Addr} : ∀ {ts : List Ex} {i : Nat}, Ex.AtBL S w p i ts → ∃ rs : List XE, rs.map (·.1) = ts ∧ ∀ j (h : j < rs.length), ∃ b o, p = some ⟨b, o, none⟩ ∧ S b ∧ Ex.cells w b (o + (i + j) * 5) rs[j].1 rs[j].2.1 rs[j].2.2 ∧ Ex.AtB S w rs[j].2.1 rs[j].1 := by
  intro ts
  induction ts with
  | nil => intro i _; exact ⟨[], rfl, fun j h => by simp at h⟩
  | cons t ts ih =>
    intro i h
    obtain ⟨⟨b, o, q, c, e1, e2, e3, e4⟩, h2⟩ := h
    obtain ⟨rs, h3, h4⟩ := ih h2
    refine ⟨(t, q, c) :: rs, by simp [h3], fun j hj => ?_⟩
    cases j with
    | zero => exact ⟨b, o, e1, e2, e3, e4⟩
    | succ j =>
      obtain ⟨b', o', f1, f2, f3, f4⟩ := h4 j (by simpa using hj)
      exact ⟨b', o', f1, f2, by rw [show i + (j + 1) = i + 1 + j by omega]; exact f3, f4⟩
theorem rowC_at {w : World} {b o : Nat} {rs : List XE} (h : ∀ j (h : j < rs.length), Ex.cells w b (o + j * 5) rs[j].1 rs[j].2.1 rs[j].2.2) : ∀ j u, (rowC rs)[j]? = some u → w.cell? ((⟨b, o, none⟩ : Addr).add j) = some u := by
  intro j u hu
  have hj : j < rs.length * 5 := by rw [← rowC_length]; exact (List.getElem?_eq_some_iff.1 hu).1
  have e : (⟨b, o, none⟩ : Addr).add j = ⟨b, o + j, none⟩ := by unfold Addr.add; split <;> simp_all
  rw [e]
  have hq : j / 5 < rs.length := by omega
  obtain ⟨c0, c1, c2, c3, c4⟩ := h (j / 5) hq
  have hr : j = j / 5 * 5 + j % 5 := by omega
  have hm : j % 5 < 5 := by omega
  rw [hr, rowC_get rs (j / 5) (j % 5) hq hm] at hu
  rw [hr]
  have h5 : j % 5 = 0 ∨ j % 5 = 1 ∨ j % 5 = 2 ∨ j % 5 = 3 ∨ j % 5 = 4 := by omega
  generalize j % 5 = m at *
  generalize j / 5 = d at *
  rcases h5 with rfl | rfl | rfl | rfl | rfl
  · simp only [ec, List.getElem?_cons_zero, Option.some.injEq] at hu; rw [← hu]; simpa using c0
  · simp only [ec, List.getElem?_cons_zero, List.getElem?_cons_succ, Option.some.injEq] at hu; rw [← hu, ← Nat.add_assoc]; exact c1
  · simp only [ec, List.getElem?_cons_zero, List.getElem?_cons_succ, Option.some.injEq] at hu; rw [← hu, ← Nat.add_assoc]; exact c2
  · simp only [ec, List.getElem?_cons_zero, List.getElem?_cons_succ, Option.some.injEq] at hu; rw [← hu, ← Nat.add_assoc]; exact c3
  · simp only [ec, List.getElem?_cons_zero, List.getElem?_cons_succ, Option.some.injEq] at hu; rw [← hu, ← Nat.add_assoc]; exact c4

set_option maxHeartbeats 1000000 in
theorem Clone_any (rs : List XE) (a : Addr) (c : Nat) (w : World) (hl : rs.length ≤ 2199023255488) (hc : ∀ j u, (rowC rs)[j]? = some u → w.cell? (a.add j) = some u) :
    Calls Tryz.prog 77 #[.slice (some a) rs.length c] w fun e w' => ∃ v, e = .returned v ∧ RowE w.heap.size v rs w' ∧ Ext w w' := by
  obtain ⟨i0, hi, hz0, hz1, hz2⟩ := info_parts infoEx
  have hn : ∀ W, (binOp .eql 22 (.slice (some a) rs.length c) (.slice none 0 0)).run Tryz.prog W = .ok (.bool false) W := fun W => Lib.run_eql_slice_nil (P := Tryz.prog) W 22 _ (some a) rs.length c 0 0 Tryz.underlying22
  have HC := Lib.hid (fun W (h : Ext w W) j u hu => (h.below.cell (Ex.cell_lt' (hc j u hu))).trans (hc j u hu))
  have HL := Lib.hid (rowC_length rs)
  have HO := Lib.hid (rowC_one rs)
  clear hc
  unfold RowE
  generalize rowC rs = xs at *
  generalize rs.length = n at *
  have hE0 : Ext w (w.alloc (.cells #[] tEx)) := (Below.refl _ w).alloc (Nat.le_refl _) _
  have hA := HC.out _ hE0
  go_enter Tryz.func77, Tryz.ntmps77
  go_wp2_with (at_builtin; go_loud (refine wpList_append_own _ rfl _ _ 22 rfl w.heap.size tEx i0 (.agg #[.int .i64 0, .int .i64 0, sV [], .int .i64 0, .slice none 0 0]) 5 64 Tryz.underlying22 hi hz0 hz1 hz2 rfl (by decide) _ 0 [] rfl (World.ownsRow_lit (base := w.heap.size) w #[] 0 (Nat.le_refl _) (by unfold maxLen; omega) (by simp)) a n c xs rfl HL.out hA HO.out (by unfold maxLen; omega) (by omega) (by simp) ?_); intro v' w3 hown hgrow hnil)
  go_wp2
  go_ret
  rw [Nat.zero_add, List.nil_append] at hown
  exact ⟨_, rfl, hown, ((Below.refl _ w).alloc (Nat.le_refl _) _).grown hgrow (by simp) (fun k e => by cases e; exact Nat.le_refl _)⟩
theorem Clone_nil (c : Nat) (w : World) : Calls Tryz.prog 77 #[.slice none 0 c] w fun e w' => e = .returned (.slice none 0 0) ∧ w = w' := by
  have hn : ∀ W, (binOp .eql 22 (.slice none 0 c) (.slice none 0 0)).run Tryz.prog W = .ok (.bool true) W := fun W => Lib.run_eql_slice_nil (P := Tryz.prog) W 22 _ none 0 c 0 0 Tryz.underlying22
  go_enter Tryz.func77, Tryz.ntmps77
  go_wp2
  go_ret
  exact ⟨rfl, rfl⟩
theorem rows_at {w : World} {p : Option Addr} : ∀ {ts : List Ex} {i : Nat}, Ex.AtL w p i ts → ∃ rs : List XE, rs.map (·.1) = ts ∧ ∀ j (h : j < rs.length), ∃ b o, p = some ⟨b, o, none⟩ ∧ Ex.cells w b (o + (i + j) * 5) rs[j].1 rs[j].2.1 rs[j].2.2 ∧ Ex.At w rs[j].2.1 rs[j].1 := by
  intro ts
  induction ts with
  | nil => intro i _; exact ⟨[], rfl, fun j h => by simp at h⟩
  | cons t ts ih =>
    intro i h
    obtain ⟨⟨b, o, q, c, e1, e3, e4⟩, h2⟩ := h
    obtain ⟨rs, h3, h4⟩ := ih h2
    refine ⟨(t, q, c) :: rs, by simp [h3], fun j hj => ?_⟩
    cases j with
    | zero => exact ⟨b, o, e1, e3, e4⟩
    | succ j =>
      obtain ⟨b', o', f1, f3, f4⟩ := h4 j (by simpa using hj)
      exact ⟨b', o', f1, by rw [show i + (j + 1) = i + 1 + j by omega]; exact f3, f4⟩
/-- the clone of an expression's arguments -/
theorem Clone_row {w₀ : World} {p : Option Addr} {k o : Int} {n : List UInt8} {v : Int} {ts : List Ex} (h : Ex.At w₀ p (.mk k o n v ts)) :
    ∃ rs : List XE, rs.map (·.1) = ts ∧ (∀ j (h : j < rs.length), Ex.At w₀ rs[j].2.1 rs[j].1) ∧ ∀ w, Ext w₀ w → ∀ c, Calls Tryz.prog 77 #[.slice p ts.length c] w fun e w' => ∃ v, e = .returned v ∧ RowE w.heap.size v rs w' ∧ Ext w w' := by
  have hl : ts.length ≤ 2199023255488 := h.1.2.2.2.2
  obtain ⟨rs, h1, h2⟩ := rows_at h.2
  have hlen : rs.length = ts.length := by rw [← h1, List.length_map]
  refine ⟨rs, h1, fun j hj => by obtain ⟨b, o, _, _, h⟩ := h2 j hj; exact h, fun w hE c => ?_⟩
  rw [← hlen]
  cases p with
  | none =>
    have h0 : rs = [] := by
      cases rs with
      | nil => rfl
      | cons x rs => obtain ⟨b, o, e, _⟩ := h2 0 (by simp); cases e
    subst h0
    exact (Clone_nil c w).mono (fun e w' ⟨h3, h4⟩ => ⟨_, h3, World.ownsRow_nil _ _ _ _, by rw [← h4]; exact Below.refl _ _⟩)
  | some a =>
    refine Clone_any rs a c w (by omega) ?_
    by_cases h0 : rs = []
    · subst h0; intro j u hu; simp [rowC] at hu
    · obtain ⟨b, o, e, _⟩ := h2 0 (List.length_pos_iff.2 h0)
      cases e
      refine rowC_at (fun j hj => ?_)
      obtain ⟨b', o', e, h3, _⟩ := h2 j hj
      cases e
      rw [Nat.zero_add] at h3
      exact h3.below hE

end Go.Proofs.YtgkalcboklhdgaaGreatDoor

namespace Go.Proofs.YtgkalcboklhdgaaGreatDoor
open Go.RowKit
set_option linter.unusedVariables false
set_option linter.unusedSimpArgs false
open Ex

/-- the expression of an integer -/
def lit (n : Int) : Ex := if n < 0 then .mk 3 1 [] 0 [.mk 1 0 [] (-n) []] else .mk 1 0 [] n []
theorem put5 {W : World} {B : Nat} {c : Array Value} {T : TypeId} {f : Nat × Nat} (h : W.heap[B]? = some (.cells c T f)) (hc : c.size = 5) (x0 x1 x2 x3 x4 : Value) :
    (((((W.setCell ⟨B, 0, none⟩ x0).setCell ⟨B, 1, none⟩ x1).setCell ⟨B, 2, none⟩ x2).setCell ⟨B, 3, none⟩ x3).setCell ⟨B, 4, none⟩ x4).heap[B]? = some (.cells #[x0, x1, x2, x3, x4] T f) ∧
    (∀ n₀, n₀ ≤ B → Below n₀ W (((((W.setCell ⟨B, 0, none⟩ x0).setCell ⟨B, 1, none⟩ x1).setCell ⟨B, 2, none⟩ x2).setCell ⟨B, 3, none⟩ x3).setCell ⟨B, 4, none⟩ x4)) ∧
    (∀ b, b ≠ B → (((((W.setCell ⟨B, 0, none⟩ x0).setCell ⟨B, 1, none⟩ x1).setCell ⟨B, 2, none⟩ x2).setCell ⟨B, 3, none⟩ x3).setCell ⟨B, 4, none⟩ x4).heap[b]? = W.heap[b]?) := by
  refine ⟨?_, fun n₀ hn => ((((((Below.refl n₀ W).setCell (p := ⟨B, 0, none⟩) hn _).setCell (p := ⟨B, 1, none⟩) hn _).setCell (p := ⟨B, 2, none⟩) hn _).setCell (p := ⟨B, 3, none⟩) hn _).setCell (p := ⟨B, 4, none⟩) hn _), fun b hb => ?_⟩
  · obtain ⟨l⟩ := c
    match l, hc with
    | [a0, a1, a2, a3, a4], _ =>
      have h0 : Turn B (.cells #[a0, a1, a2, a3, a4] T f) W W := Turn.refl h
      exact (((((h0.setCell (i := 0) x0).setCell (i := 1) x1).setCell (i := 2) x2).setCell (i := 3) x3).setCell (i := 4) x4).here
  · rw [Below.heap_setCell _ ⟨B, 4, none⟩ _ _ hb, Below.heap_setCell _ ⟨B, 3, none⟩ _ _ hb, Below.heap_setCell _ ⟨B, 2, none⟩ _ _ hb, Below.heap_setCell _ ⟨B, 1, none⟩ _ _ hb, Below.heap_setCell _ ⟨B, 0, none⟩ _ _ hb]
/-- an expression without arguments needs no memory -/
theorem AtB_leaf (S : Nat → Prop) (w : World) (p : Option Addr) {k o : Int} {n : List UInt8} {v : Int} (h : fits (.mk k o n v [])) : AtB S w p (.mk k o n v []) := ⟨h, trivial⟩
theorem fits_num (n : Int) (h1 : -1099511627776 ≤ n) (h2 : n ≤ 1099511627776) : fits (.mk 1 0 [] n []) :=
  ⟨⟨by show _ ≤ (1 : Int); omega, by show (1 : Int) ≤ _; omega⟩, ⟨by show _ ≤ (0 : Int); omega, by show (0 : Int) ≤ _; omega⟩, by show ([] : List UInt8).length ≤ _; simp, ⟨by show _ ≤ n; omega, by show n ≤ _; omega⟩, by show ([] : List Ex).length ≤ _; simp⟩

theorem sV_nil : Value.string { data := #[] } = sV [] := by unfold sV; rw [sB_nil]
theorem lit_at {n₀ : Nat} {W : World} {G : Nat} {n : Int} {t : TypeId} {f : Nat × Nat} (hb : W.heap[G]? = some (.cells #[.int .i64 1, .int .i64 0, sV [], .int .i64 (-n), .slice none 0 0] t f)) (hG : n₀ ≤ G) (h1 : -1099511627776 ≤ n) (h2 : n < 0) :
    AtB (n₀ ≤ ·) W (some ⟨G, 0, none⟩) (.mk 3 1 [] 0 [.mk 1 0 [] (-n) []]) := by
  refine ⟨⟨⟨by show _ ≤ (3 : Int); omega, by show (3 : Int) ≤ _; omega⟩, ⟨by show _ ≤ (1 : Int); omega, by show (1 : Int) ≤ _; omega⟩, by show ([] : List UInt8).length ≤ _; simp, ⟨by show _ ≤ (0 : Int); omega, by show (0 : Int) ≤ _; omega⟩, by show ([Ex.mk 1 0 [] (-n) []] : List Ex).length ≤ _; simp⟩, ⟨⟨G, 0, none, 0, rfl, hG, ?_, AtB_leaf _ _ _ (fits_num (-n) (by omega) (by omega))⟩, trivial⟩⟩
  exact ⟨cell_of hb rfl, cell_of hb rfl, cell_of hb rfl, cell_of hb rfl, cell_of hb rfl⟩

set_option maxHeartbeats 1000000 in
theorem literal_pos (n : Int) (w : World) (h1 : 0 ≤ n) (h2 : n ≤ 1099511627776) : Calls Tryz.prog 59 #[.int .i64 n] w fun r w' => r = .returned (.agg #[.int .i64 1, .int .i64 0, sV [], .int .i64 n, .slice none 0 0]) ∧ Ext w w' := by
  have hE : Ext w (w.alloc (.cells #[.int .i64 1, .int .i64 0, .string { data := #[] }, .int .i64 n, .slice none 0 0] tEx)) := (Below.refl _ w).alloc (Nat.le_refl _) _
  have HE := Lib.hid hE
  have e0 := cell_of (i := 0) (alloc_here w (.cells #[.int .i64 1, .int .i64 0, .string { data := #[] }, .int .i64 n, .slice none 0 0] tEx)) rfl
  have e1 := cell_of (i := 1) (alloc_here w (.cells #[.int .i64 1, .int .i64 0, .string { data := #[] }, .int .i64 n, .slice none 0 0] tEx)) rfl
  have e2 := cell_of (i := 2) (alloc_here w (.cells #[.int .i64 1, .int .i64 0, .string { data := #[] }, .int .i64 n, .slice none 0 0] tEx)) rfl
  have e3 := cell_of (i := 3) (alloc_here w (.cells #[.int .i64 1, .int .i64 0, .string { data := #[] }, .int .i64 n, .slice none 0 0] tEx)) rfl
  have e4 := cell_of (i := 4) (alloc_here w (.cells #[.int .i64 1, .int .i64 0, .string { data := #[] }, .int .i64 n, .slice none 0 0] tEx)) rfl
  clear hE
  have K := Lib.hid (And.intro e0 (And.intro e1 (And.intro e2 (And.intro e3 e4))))
  clear e0 e1 e2 e3 e4
  go_enter Tryz.func59, Tryz.ntmps59
  go_wp2
  obtain ⟨e0, e1, e2, e3, e4⟩ := K.out
  try dsimp only at e0 e1 e2 e3 e4
  exact bodyPost_ret (v := .agg #[.int .i64 1, .int .i64 0, .string { data := #[] }, .int .i64 n, .slice none 0 0]) (by simp [results, Tryz.f59, go_sem, e0, e1, e2, e3, e4, sB_nil]) rfl ⟨by rw [sB_nil], HE.out⟩
set_option maxHeartbeats 1000000 in
theorem literal_any (n : Int) (w : World) (h1 : -1099511627776 ≤ n) (h2 : n ≤ 1099511627776) : Calls Tryz.prog 59 #[.int .i64 n] w fun r w' => ∃ p c, r = .returned ((lit n).val p c) ∧ AtB (w.heap.size ≤ ·) w' p (lit n) ∧ Ext w w' := by
  by_cases hn : n < 0
  · have C := Lib.hid (fun W => literal_pos (-n) W (by omega) (by omega))
    have HE0 := Lib.hid ((Below.refl w.heap.size w).alloc (Nat.le_refl _) (.cells #[.int .i64 0, .int .i64 0, sV [], .int .i64 0, .slice none 0 0] tEx))
    have h0 := (Below.refl w.heap.size w).alloc (Nat.le_refl _) (.cells #[.int .i64 0, .int .i64 0, sV [], .int .i64 0, .slice none 0 0] tEx)
    have hb0 := alloc_here w (.cells #[.int .i64 0, .int .i64 0, sV [], .int .i64 0, .slice none 0 0] tEx)
    have HB0 := Lib.hid hb0
    clear hb0 h0
    have HL := Lib.hid (show lit n = .mk 3 1 [] 0 [.mk 1 0 [] (-n) []] by unfold lit; rw [if_pos hn])
    rw [HL.out]
    go_enter Tryz.func59, Tryz.ntmps59
    go_wp2_with fail
    refine (C.out _).mono ?_
    rintro _ w1 ⟨rfl, hE1⟩
    dsimp only
    have HE1 := Lib.hid hE1
    clear hE1
    have hbb := (((HE1.out.below.block _ (lt_of_block HB0.out)).trans HB0.out))
    have hl1 := lt_of_block hbb
    have hb2 := (Below.heap_alloc w1 (.cells #[.int .i64 1, .int .i64 0, sV [], .int .i64 (-n), .slice none 0 0] tEx) w.heap.size hl1).trans hbb
    have hb3 := alloc_here w1 (.cells #[.int .i64 1, .int .i64 0, sV [], .int .i64 (-n), .slice none 0 0] tEx)
    have HE2 := Lib.hid ((Ext.trans HE0.out HE1.out).alloc (Nat.le_of_lt hl1) (.cells #[.int .i64 1, .int .i64 0, sV [], .int .i64 (-n), .slice none 0 0] tEx))
    have f0 : ∀ i, (w1.alloc (.cells #[.int .i64 1, .int .i64 0, sV [], .int .i64 (-n), .slice none 0 0] tEx)).frozen? ⟨w.heap.size, i, none⟩ = false := fun i => free_of hb2
    have d0 : (w1.alloc (.cells #[.int .i64 1, .int .i64 0, sV [], .int .i64 (-n), .slice none 0 0] tEx)).cell? ⟨w.heap.size, 0, none⟩ = some (.int .i64 0) := cell_of hb2 rfl
    have d1 : (w1.alloc (.cells #[.int .i64 1, .int .i64 0, sV [], .int .i64 (-n), .slice none 0 0] tEx)).cell? ⟨w.heap.size, 1, none⟩ = some (.int .i64 0) := cell_of hb2 rfl
    have d2 : (w1.alloc (.cells #[.int .i64 1, .int .i64 0, sV [], .int .i64 (-n), .slice none 0 0] tEx)).cell? ⟨w.heap.size, 2, none⟩ = some (sV []) := cell_of hb2 rfl
    have d3 : (w1.alloc (.cells #[.int .i64 1, .int .i64 0, sV [], .int .i64 (-n), .slice none 0 0] tEx)).cell? ⟨w.heap.size, 3, none⟩ = some (.int .i64 0) := cell_of hb2 rfl
    have d4 : (w1.alloc (.cells #[.int .i64 1, .int .i64 0, sV [], .int .i64 (-n), .slice none 0 0] tEx)).cell? ⟨w.heap.size, 4, none⟩ = some (.slice none 0 0) := cell_of hb2 rfl
    have HB2 := Lib.hid hb2
    have HB3 := Lib.hid hb3
    have HL1 := Lib.hid hl1
    clear hbb hb2 hb3 hl1
    go_wp2
    generalize w1.alloc (.cells #[.int .i64 1, .int .i64 0, sV [], .int .i64 (-n), .slice none 0 0] tEx) = w2 at *
    obtain ⟨h3, h4, h5⟩ := put5 HB2.out rfl (.int .i64 3) (.int .i64 1) (.string { data := #[] }) (.int .i64 0) (.slice (some ⟨w1.heap.size, 0, none⟩) 1 1)
    generalize (((((w2.setCell ⟨w.heap.size, 0, none⟩ (.int .i64 3)).setCell ⟨w.heap.size, 1, none⟩ (.int .i64 1)).setCell ⟨w.heap.size, 2, none⟩ (.string { data := #[] })).setCell ⟨w.heap.size, 3, none⟩ (.int .i64 0)).setCell ⟨w.heap.size, 4, none⟩ (.slice (some ⟨w1.heap.size, 0, none⟩) 1 1)) = W at *
    have e0 : W.cell? ⟨w.heap.size, 0, none⟩ = some (.int .i64 3) := cell_of h3 rfl
    have e1 : W.cell? ⟨w.heap.size, 1, none⟩ = some (.int .i64 1) := cell_of h3 rfl
    have e2 : W.cell? ⟨w.heap.size, 2, none⟩ = some (.string { data := #[] }) := cell_of h3 rfl
    have e3 : W.cell? ⟨w.heap.size, 3, none⟩ = some (.int .i64 0) := cell_of h3 rfl
    have e4 : W.cell? ⟨w.heap.size, 4, none⟩ = some (.slice (some ⟨w1.heap.size, 0, none⟩) 1 1) := cell_of h3 rfl
    refine bodyPost_ret (v := .agg #[.int .i64 3, .int .i64 1, .string { data := #[] }, .int .i64 0, .slice (some ⟨w1.heap.size, 0, none⟩) 1 1]) (by simp [results, Tryz.f59, go_sem, e0, e1, e2, e3, e4, sB_nil]) rfl ⟨some ⟨w1.heap.size, 0, none⟩, 1, by rw [sV_nil]; rfl, lit_at ((h5 _ (by have := HL1.out; omega)).trans HB3.out) (Nat.le_of_lt HL1.out) h1 hn, Below.trans HE2.out (h4 _ (Nat.le_refl _))⟩
  · exact (literal_pos n w (by omega) h2).mono (fun r w' h => ⟨none, 0, by rw [h.1]; unfold lit; rw [if_neg hn]; rfl, by unfold lit; rw [if_neg hn]; exact AtB_leaf _ _ _ (fits_num n h1 h2), h.2⟩)
end Go.Proofs.YtgkalcboklhdgaaGreatDoor

namespace Go.Proofs.YtgkalcboklhdgaaGreatDoor
open Go.RowKit
set_option linter.unusedVariables false
set_option linter.unusedSimpArgs false
open Ex

/-- the constant that e is -/
def cst (e : Ex) : Int × Bool := if (e.ty []).2 ≠ 0 ∨ (e.ty []).1 ≠ 1 then (0, false) else ((e.ev []).1, (e.ev []).2 == 0)
theorem BAt_nil (w : World) : BAt w none [] := ⟨by simp, fun j h => by simp at h⟩
theorem bnds_nil : bnds [] = true := by decide

set_option maxHeartbeats 1000000 in
theorem constant_any (e : Ex) (hfe : e.fe = 0) (p : Option Addr) (c : Nat) (w : World) (hA : Ex.At w p e) :
    Gives Tryz.prog 58 #[e.val p c] w (.tuple #[.int .i64 (cst e).1, .bool (cst e).2]) := by
  have C1 := Lib.hid (fun W (h : Ext w W) => show Gives _ _ #[.agg #[.int .i64 e.kind, .int .i64 e.op, sV e.name, .int .i64 e.value, .slice p e.args.length c], _] _ _ from typed_any [] none 0 e.size e (Nat.le_refl _) p c W (hA.below h) (BAt_nil W) hfe)
  have C3 := Lib.hid (fun t (hz : e.ty [] = (t, 0)) W (h : Ext w W) => show Gives _ _ #[.agg #[.int .i64 e.kind, .int .i64 e.op, sV e.name, .int .i64 e.value, .slice p e.args.length c], _] _ _ from
    value_any [] bnds_nil none 0 e.size e (Nat.le_refl _) p c W (hA.below h) (BAt_nil W) hfe t hz)
  have HT := Lib.hid (show cst e = if (e.ty []).2 ≠ 0 ∨ (e.ty []).1 ≠ 1 then (0, false) else ((e.ev []).1, (e.ev []).2 == 0) from rfl)
  generalize cst e = r at *
  generalize e.ty [] = tr at *
  obtain ⟨t1, t2⟩ := tr
  clear hfe
  unfold Gives Ex.val
  generalize e.kind = k1 at *
  generalize e.op = o1 at *
  generalize e.name = n1 at *
  generalize e.value = v1 at *
  generalize e.args.length = l1 at *
  generalize e.ev [] = ve at *
  obtain ⟨v2, v3⟩ := ve
  clear hA
  unfold i2V at C1 C3
  simp only at C1 C3
  by_cases h1 : t2 = 0
  · subst h1
    by_cases h2 : t1 = 1
    · have C3' := Lib.hid (C3.out t1 rfl)
      have HR := Lib.hid (show r = (v2, v3 == 0) by rw [HT.out, if_neg (by simp [h2])])
      subst h2
      clear C3 HT
      go_enter Tryz.func58, Tryz.ntmps58
      go_wp2_with fail
      refine (C1.out _ ((Below.refl _ w).alloc (Nat.le_refl _) _)).mono ?_
      intro w1 hB1
      obtain ⟨b0, b1, b2, b3, b4, hW⟩ := Ext.box hB1
      have HW := Lib.hid hW
      clear hB1 C1 hW
      go_wp2_with fail
      refine (C3'.out _ HW.out).mono ?_
      intro w3 hB3
      go_wp2
      go_ret2
      exact ⟨by rw [HR.out]; rfl, Ext.trans HW.out hB3⟩
    · have hg1 : (t1 == 1) = false := by simpa using h2
      have hg2 : (t1 != 1) = true := by simpa using h2
      have HR := Lib.hid (show r = (0, false) by rw [HT.out, if_pos (by simp [h2])])
      clear h2 HT C3
      go_enter Tryz.func58, Tryz.ntmps58
      go_wp2_with fail
      refine (C1.out _ ((Below.refl _ w).alloc (Nat.le_refl _) _)).mono ?_
      intro w1 hB1
      go_wp2
      go_ret2
      exact ⟨by rw [HR.out]; rfl, Ext.trans ((Below.refl _ w).alloc (Nat.le_refl _) _) hB1⟩
  · have hg1 : (t2 == 0) = false := by simpa using h1
    have hg2 : (t2 != 0) = true := by simpa using h1
    have HR := Lib.hid (show r = (0, false) by rw [HT.out, if_pos (by simp [h1])])
    clear h1 HT C3
    go_enter Tryz.func58, Tryz.ntmps58
    go_wp2_with fail
    refine (C1.out _ ((Below.refl _ w).alloc (Nat.le_refl _) _)).mono ?_
    intro w1 hB1
    go_wp2
    go_ret2
    exact ⟨by rw [HR.out]; rfl, Ext.trans ((Below.refl _ w).alloc (Nat.le_refl _) _) hB1⟩

end Go.Proofs.YtgkalcboklhdgaaGreatDoor

