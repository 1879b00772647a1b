/- Lemmas and walks for the statements of this seat, part 4, merged from smaller texts: Check.; The reference's Operate.; The reference's Operate.; The type and the value of an expression, plain.; Slices of integers (the part of XInts that knows no function).; Slices of integers of the call's own, to which it appends (the part of XApp that knows no function).; expr's typed.; The reference's typeOf.; Type, both. -/
import Derived.Test.YtgkalcboklhdgaaDoorRows
import Derived.Lib.AppendStr
import Derived.Deep.OwnRows
import Derived.Lib.SmallJoins
import Derived.Maps.AppendAt
import Derived.OwnWalk
import Derived.Test.YtgkalcboklhdgaaDoorPart3
import Derived.Test.YtgkalcboklhdgaaDoorPart2
import Derived.Test.YtgkalcboklhdgaaDoorPart1

namespace Go.Proofs.YtgkalcboklhdgaaDoor
open Go.RowKit
set_option linter.unusedVariables false
set_option linter.unusedSimpArgs false
attribute [local go_sem] Oper.semAt_some

theorem cells_own {X Y : World} {row : Option Nat} {B : Nat} {c : Array Value} {t : TypeId} {f : Nat × Nat} (h : X.heap[B]? = some (.cells c t f)) (hg : X.grownBy Y row) (hr : ∀ r, row = some r → ∃ o : Obj, X.heap[r]? = some o ∧ o.isCells = false) : Y.heap[B]? = some (.cells c t f) :=
  (hg.block B (lt_of_block h) (fun e => by obtain ⟨o, ho, hc⟩ := hr B e.symm; rw [h] at ho; cases ho; cases hc)).trans h
theorem keepsFrom_ext {B : Nat} {W W' : World} (h : Below W.heap.size W W') : KeepsFrom B W W' := ⟨h.size, fun i o _ hi _ => (h.block i (lt_of_block hi)).trans hi⟩

set_option maxRecDepth 100000 in
set_option maxHeartbeats 4000000 in
theorem Check_any (e : Ex) (p : Option Addr) (c : Nat) (w : World) (hA : Ex.At w p e) : Gives Tryd.prog 28 #[e.val p c] w (.int .i64 e.chk) := by
  have C := Lib.hid (fun W g h1 h2 h3 => show Calls _ _ #[.agg #[.int .i64 e.kind, .int .i64 e.op, sV e.name, .int .i64 e.value, .slice p e.args.length c], _, _] _ _ from measure_any w e.size e (Nat.le_refl _) p c 0 1 g 1 W rfl hA h1 h2 h3 (by omega) (by omega) (by omega))
  obtain ⟨d, hd1, hd2, hd3, hP⟩ := PEx.of_at c hA
  have HC := Lib.hid (show e.chk = if 100 < e.size then 4 else if 12 < e.height then 22 else PEx.ferr d.pre by rw [PEx.ferr_pre, hd1]; rfl)
  have HST := Lib.hid (fun n B W h1 h2 h3 => show SeqStopsK Fence.wide n Tryd.prog 70 #[.pointer (some ⟨B, 0, none⟩)] (fun x : Pt => #[x.1.val]) (Kx w.heap.size) (fun ys => ys.map (·.1) = d.pre) (fun ys => ys.map (·.1) <+: d.pre) d.pre.length W from
    parts_stops Fence.wide rfl n trivial trivial rfl B w.heap.size d W h1 h2 h3)
  rw [hd2, hd3, hd1] at HST
  have HP := Lib.hid hP
  have hle := Ex.height_le e
  unfold Gives Ex.val
  generalize e.height = g1 at *
  generalize e.size = s1 at *
  generalize e.chk = r at *
  clear hd1 hP
  generalize e.kind = k1 at *
  generalize e.op = o1 at *
  generalize e.name = n1 at *
  generalize e.value = v1 at *
  generalize e.args.length = l1 at *
  obtain ⟨B, hB⟩ : ∃ B, B = w.heap.size := ⟨_, rfl⟩
  have HA2 := Lib.hid (show Ext w (((w.alloc (.cells #[.int .i64 k1, .int .i64 o1, sV n1, .int .i64 v1, .slice p l1 c] 24)).alloc (.cells #[.int .i64 0] 29)).alloc (numO 0)) from (((Below.refl _ w).alloc (Nat.le_refl _) _).alloc (by simp) _).alloc (by simp; omega) _)
  refine (callsIn_wide (n := 9)).1 ?_
  refine callsIn_of_wp_marks Tryd.func28 rfl trivial ?_ rfl
  simp only [Tryd.ntmps28, List.size_toArray, List.length_cons, List.length_nil, Nat.reduceAdd, Nat.reduceSub, Array.replicate_succ, Array.replicate_zero, List.push_toArray, List.append_toArray, List.nil_append, List.cons_append]
  gi_wp2_with (fail)
  refine ⟨trivial, callsIn_wide.2 ((C.out _ (w.heap.size + 1 + 1) HA2.out (by omega) (by
    have h := alloc_here ((w.alloc (.cells #[.int .i64 k1, .int .i64 o1, sV n1, .int .i64 v1, .slice p l1 c] 24)).alloc (.cells #[.int .i64 0] 29)) (numO 0)
    have e : ((w.alloc (.cells #[.int .i64 k1, .int .i64 o1, sV n1, .int .i64 v1, .slice p l1 c] 24)).alloc (.cells #[.int .i64 0] 29)).heap.size = w.heap.size + 1 + 1 := by simp
    rw [e] at h; exact h)).mono ?_)⟩
  rintro x W1 ⟨dp, m, rfl, hT, hm1, hr1, hle1, hgt1⟩
  have hsz2 : (((w.alloc (.cells #[.int .i64 k1, .int .i64 o1, sV n1, .int .i64 v1, .slice p l1 c] 24)).alloc (.cells #[.int .i64 0] 29)).alloc (numO 0)).heap.size = w.heap.size + 3 := by simp
  have hcn : W1.cell? ⟨w.heap.size + 1 + 1, 0, none⟩ = some (.int .i64 (m : Int)) := cell_of hT.here rfl
  have hW1 : Ext w W1 := Below.trans HA2.out (hT.below (by omega) (by rw [hsz2]; omega))
  have hbE : W1.heap[w.heap.size]? = some (.cells (exC k1 o1 n1 v1 p l1 c) tEx (0, 0)) := by
    rw [hT.other _ (by rw [hsz2]; omega) (by omega)]
    exact (Below.heap_alloc _ _ _ (by simp; omega)).trans ((Below.heap_alloc _ _ _ (by simp)).trans (alloc_here _ _))
  have hbR : W1.heap[w.heap.size + 1]? = some (.cells #[.int .i64 0] 29 (0, 0)) := by
    rw [hT.other _ (by rw [hsz2]; omega) (by omega)]
    have h := alloc_here (w.alloc (.cells #[.int .i64 k1, .int .i64 o1, sV n1, .int .i64 v1, .slice p l1 c] 24)) (.cells #[.int .i64 0] 29)
    rw [World.size_alloc] at h
    exact (Below.heap_alloc _ _ _ (by simp)).trans h
  have hz1 : w.heap.size + 3 ≤ W1.heap.size := by have := hT.size; rw [hsz2] at this; exact this
  have b0 : W1.cell? ⟨w.heap.size, 0, none⟩ = some (.int .i64 k1) := cell_of hbE rfl
  have b1 : W1.cell? ⟨w.heap.size, 1, none⟩ = some (.int .i64 o1) := cell_of hbE rfl
  have b2 : W1.cell? ⟨w.heap.size, 2, none⟩ = some (sV n1) := cell_of hbE rfl
  have b3 : W1.cell? ⟨w.heap.size, 3, none⟩ = some (.int .i64 v1) := cell_of hbE rfl
  have b4 : W1.cell? ⟨w.heap.size, 4, none⟩ = some (.slice p l1 c) := cell_of hbE rfl
  have cR : W1.cell? ⟨w.heap.size + 1, 0, none⟩ = some (.int .i64 0) := cell_of hbR rfl
  have fR : W1.frozen? ⟨w.heap.size + 1, 0, none⟩ = false := free_of hbR
  have HW1 := Lib.hid hW1
  have HbR := Lib.hid hbR
  clear hT hbE hbR hW1 hsz2 C HA2 hB
  clear B
  by_cases h100 : 100 < s1
  · have hm : 100 < m := hgt1 (by omega)
    have HZ := Lib.hid (show r = 4 by rw [HC.out, if_pos h100])
    have HF := Lib.hid (Below.setCell HW1.out (p := ⟨w.heap.size + 1, 0, none⟩) (show w.heap.size ≤ w.heap.size + 1 by omega) (.int .i64 4))
    have hc5 : (W1.setCell ⟨w.heap.size + 1, 0, none⟩ (.int .i64 4)).cell? ⟨w.heap.size + 1, 0, none⟩ = some (.int .i64 4) := World.cell?_setCell_same' _ _ _ (by rw [cR]; rfl)
    clear hle1 hgt1
    gi_wp2
    exact ⟨.int .i64 4, by simp [results, Tryd.f28, go_sem, hc5], by rw [HZ.out], HF.out⟩
  · obtain ⟨rfl, hdp⟩ := hle1 (by omega)
    by_cases h12 : 12 < g1
    · have HZ := Lib.hid (show r = 22 by rw [HC.out, if_neg h100, if_pos h12])
      have hd12 : 12 < dp := by omega
      have HF := Lib.hid (Below.setCell HW1.out (p := ⟨w.heap.size + 1, 0, none⟩) (show w.heap.size ≤ w.heap.size + 1 by omega) (.int .i64 22))
      have hc5 : (W1.setCell ⟨w.heap.size + 1, 0, none⟩ (.int .i64 22)).cell? ⟨w.heap.size + 1, 0, none⟩ = some (.int .i64 22) := World.cell?_setCell_same' _ _ _ (by rw [cR]; rfl)
      clear hgt1
      gi_wp2
      exact ⟨.int .i64 22, by simp [results, Tryd.f28, go_sem, hc5], by rw [HZ.out], HF.out⟩
    · have HZ := Lib.hid (show r = PEx.ferr d.pre by rw [HC.out, if_neg h100, if_neg h12])
      have hd12 : dp ≤ 12 := by omega
      have hq1 : decide ((100 : Int) < (s1 : Int)) = false := by simp; omega
      have hq2 : decide ((12 : Int) < (dp : Int)) = false := by simp; omega
      clear hgt1
      gi_wp2_with (fail)
      refine ⟨trivial, callsIn_wide.2 ((xparts_any _ _ _ _ _ _ _ _).mono ?_)⟩
      rintro x W3 ⟨B2, rfl, hb3, hE3⟩
      have hW3 : Ext w W3 := Ext.trans HW1.out hE3
      have hP3 := HP.out.low hW3.below
      have hbR3 : Boxed W3 (w.heap.size + 1) 29 (.int .i64 0) := (hE3.below.block _ (lt_of_block HbR.out)).trans HbR.out
      have hn3 : w.heap.size ≤ W3.heap.size := hW3.size
      have hz3 : w.heap.size + 3 ≤ W3.heap.size := Nat.le_trans hz1 hE3.size
      clear b0 b1 b2 b3 b4 cR fR hcn
      gi_wp2_with (fail)
      refine wpIn_rangeFunc_ownH rfl (by omega) (gf := 70) (lb := #[.pointer (some ⟨B2, 0, none⟩)]) rfl trivial (enters_fn Tryd.func70 (by kernel_rfl) rfl)
        (encs := fun x : Pt => #[(.agg #[.int .i64 x.1.er.kind, .int .i64 x.1.er.op, sV x.1.er.name, .int .i64 x.1.er.value, .slice x.1.ptr x.1.er.args.length x.1.cap])]) (HST.out 8 B2 W3 hn3 hb3 hP3) Kx.trans (Kx.putObj hn3) (Below.refl _ _) (fun _ => rfl)
        (fun ys W => (PEx.ferr (ys.map (·.1)) = 0 ∧ Boxed W (w.heap.size + 1) 29 (.int .i64 0)) ∧ Below w.heap.size w W)
        (fun cd ys W => (cd = .ret ∧ ∃ f, f ≠ 0 ∧ PEx.ferr (ys.map (·.1)) = f ∧ Boxed W (w.heap.size + 1) 29 (.int .i64 f)) ∧ Below w.heap.size w W)
        (OwnFrom.and (fun s X Y row hs hg hr => ⟨hs.1, boxed_own (w.heap.size + 1) 29 (fun (_ : Unit) => Value.int .i64 0) () X Y row hs.2 hg (fun r e => (hr r e).2)⟩) (ownFrom_below (Nat.le_refl _) hn3))
        (fun cd => OwnFrom.and (fun s X Y row hs hg hr => ⟨hs.1, by obtain ⟨f, h1, h2, h3⟩ := hs.2; exact ⟨f, h1, h2, boxed_own (w.heap.size + 1) 29 (fun (_ : Unit) => Value.int .i64 f) () X Y row h3 hg (fun r e => (hr r e).2)⟩⟩) (ownFrom_below (Nat.le_refl _) hn3))
        ⟨⟨rfl, hbR3⟩, hW3⟩
        (fun x a' W => ∃ Bx, W.heap[Bx]? = some (.cells (exC x.1.er.kind x.1.er.op x.1.er.name x.1.er.value x.1.ptr x.1.er.args.length x.1.cap) tEx (0, 0)) ∧ a' = { tmps := #[(.agg #[.int .i64 k1, .int .i64 o1, sV n1, .int .i64 v1, .slice p l1 c]), .pointer (some ⟨w.heap.size, 0, none⟩), .pointer (some ⟨w.heap.size + 1, 0, none⟩), .pointer (some ⟨w.heap.size + 1 + 1, 0, none⟩), .int .i64 (dp : Int), .pointer (some ⟨Bx, 0, none⟩), undef, (.agg #[.int .i64 k1, .int .i64 o1, sV n1, .int .i64 v1, .slice p l1 c]), .int .i64 (dp : Int), .int .i64 (s1 : Int), .bool false, .int .i64 (dp : Int), .bool false, (.agg #[.int .i64 k1, .int .i64 o1, sV n1, .int .i64 v1, .slice p l1 c]), .func (.func 70) #[] #[.pointer (some ⟨B2, 0, none⟩)], (.agg #[.int .i64 x.1.er.kind, .int .i64 x.1.er.op, sV x.1.er.name, .int .i64 x.1.er.value, .slice x.1.ptr x.1.er.args.length x.1.cap]), undef, undef, undef, undef, undef], defers := [] })
        (fun x a' _ X Y row hs hg hr => by obtain ⟨Bx, h1, h3⟩ := hs; exact ⟨Bx, cells_own h1 hg (fun r e => (hr r e).2), h3⟩)
        ?assign ?body ?done ?stop
      case assign =>
        rintro l ys x W K ⟨⟨h1, h2⟩, h3⟩ hK
        have hw := h3.size
        generalize x.1.er.kind = k2 at *
        generalize x.1.er.op = o2 at *
        generalize x.1.er.name = n2 at *
        generalize x.1.er.value = v2 at *
        generalize x.1.er.args.length = l2 at *
        generalize x.1.ptr = q2 at *
        generalize x.1.cap = c2 at *
        gi_wp2
        exact hK _ _ ((KeepsOthers.alloc _ _).from _) (Kx.of_ext ((Below.refl _ W).alloc (Nat.le_refl _) _) hw) ⟨⟨h1, h2.alloc _⟩, h3.alloc hw _⟩ ⟨W.heap.size, alloc_here _ _, rfl⟩
      case body =>
        rintro l ys x a' W hl ⟨rr, hr⟩ ⟨⟨h1, h2⟩, h3⟩ ⟨Bx, hbx, rfl⟩ hlt
        have CK := Lib.hid (fun W => show Gives _ _ #[(.agg #[.int .i64 x.1.er.kind, .int .i64 x.1.er.op, sV x.1.er.name, .int .i64 x.1.er.value, .slice x.1.ptr x.1.er.args.length x.1.cap])] _ _ from check_any x.1.er x.1.ptr x.1.cap W x.2)
        have hw := h3.size
        have HF := Lib.hid (show ∀ f, pc x.1.er = f → PEx.ferr ((ys ++ [x]).map (·.1)) = f from fun f hf => by rw [List.map_append, PEx.ferr_app, h1]; simp [PEx.ferr, hf]; exact fun h => h.symm)
        generalize pc x.1.er = f1 at *
        generalize x.1.er.kind = k2 at *
        generalize x.1.er.op = o2 at *
        generalize x.1.er.name = n2 at *
        generalize x.1.er.value = v2 at *
        generalize x.1.er.args.length = l2 at *
        generalize x.1.ptr = q2 at *
        generalize x.1.cap = c2 at *
        have b0 : W.cell? ⟨Bx, 0, none⟩ = some (.int .i64 k2) := cell_of hbx rfl
        have b1 : W.cell? ⟨Bx, 1, none⟩ = some (.int .i64 o2) := cell_of hbx rfl
        have b2 : W.cell? ⟨Bx, 2, none⟩ = some (sV n2) := cell_of hbx rfl
        have b3 : W.cell? ⟨Bx, 3, none⟩ = some (.int .i64 v2) := cell_of hbx rfl
        have b4 : W.cell? ⟨Bx, 4, none⟩ = some (.slice q2 l2 c2) := cell_of hbx rfl
        by_cases hf : f1 = 0
        · subst hf
          gi_wp2_with (fail)
          refine ⟨trivial, (CallsIn.inRound l (callsIn_wide.2 (CK.out W))).mono ?_⟩
          rintro e W4 ⟨rfl, hE4⟩
          gi_wp2
          exact ⟨keepsFrom_ext hE4, Kx.of_ext hE4 hw, ⟨HF.out 0 rfl, (hE4.block _ h2.lt).trans h2⟩, h3.trans (hE4.mono hw)⟩
        · have hg1 : (f1 == 0) = false := by simpa using hf
          have hg2 : (f1 != 0) = true := by simpa using hf
          have HNE := Lib.hid hf
          clear hf
          gi_wp2_with (fail)
          refine ⟨trivial, (CallsIn.inRound l (callsIn_wide.2 (CK.out W))).mono ?_⟩
          rintro e W4 ⟨rfl, hE4⟩
          have h24 : Boxed W4 (w.heap.size + 1) 29 (.int .i64 0) := (hE4.block _ h2.lt).trans h2
          have cS := h24.cell
          have fS := h24.frozen
          gi_wp2
          exact ⟨(keepsFrom_ext hE4).trans ((KeepsOthers.setCell _ _ _).from _), ⟨rfl, f1, HNE.out, HF.out f1 rfl, h24.set _⟩, (h3.trans (hE4.mono hw)).setCell (p := ⟨w.heap.size + 1, 0, none⟩) (by simp) _⟩
      case done =>
        rintro D ys W hD hys ⟨⟨h1, h2⟩, h3⟩ hK
        have HZ2 := Lib.hid (show r = 0 by rw [HZ.out, ← h1]; exact congrArg PEx.ferr hys.symm)
        have cS := h2.cell
        have fS := h2.frozen
        clear h1 hys
        gi_wp2
        have hK' := (KeepsOthers.setCell W ⟨w.heap.size + 1, 0, none⟩ (.int .i64 0)).same D _ hK rfl
        refine ⟨by simp, .inl ⟨_, _, rfl, run_takeDeferred hK', ?_⟩⟩
        have hc5 := cell_kept (World.cell?_setCell_same' W ⟨w.heap.size + 1, 0, none⟩ (.int .i64 0) (by rw [cS]; rfl)) (grownBy_putObj' _ D (.deferred none)) (fun r e => by cases e; exact ⟨_, hK', rfl⟩)
        refine ⟨.int .i64 0, ?_, by rw [HZ2.out], (h3.setCell (p := ⟨w.heap.size + 1, 0, none⟩) (by simp) _).trans (belowK_b (w := w) (Nat.le_refl _) _ D _ _ (by omega) hK' rfl rfl)⟩
        simp [results, Tryd.f28, go_sem, hc5]
      case stop =>
        rintro D cd ys W hD hys ⟨⟨rfl, f, hf, h1, h2⟩, h3⟩ hK
        have HZ2 := Lib.hid (show r = f by
          rw [HZ.out]
          obtain ⟨rest, hrest⟩ := hys
          rw [← hrest, PEx.ferr_app, h1, if_pos hf])
        have cS := h2.cell
        clear h1 hys
        gi_wp2
        refine ⟨by simp, .inl ⟨_, _, rfl, run_takeDeferred hK, ?_⟩⟩
        have hc5 := cell_kept cS (grownBy_putObj' _ D (.deferred none)) (fun r e => by cases e; exact ⟨_, hK, rfl⟩)
        refine ⟨.int .i64 f, ?_, by rw [HZ2.out], h3.trans (belowK_b (w := w) (Nat.le_refl _) W D _ _ (by omega) hK rfl rfl)⟩
        simp [results, Tryd.f28, go_sem, hc5]

end Go.Proofs.YtgkalcboklhdgaaDoor

namespace Go.Proofs.YtgkalcboklhdgaaDoor
open Go.RowKit
set_option linter.unusedVariables false
set_option linter.unusedSimpArgs false

theorem refnumber_t (w : World) : Calls Tryd.prog 96 #[.bool true] w fun e w' => e = .returned (.int .i64 1) ∧ w = w' := by
  go_enter Tryd.func96, Tryd.ntmps96
  go_wp2
  go_ret
  exact ⟨rfl, rfl⟩
theorem refnumber_f (w : World) : Calls Tryd.prog 96 #[.bool false] w fun e w' => e = .returned (.int .i64 0) ∧ w = w' := by
  go_enter Tryd.func96, Tryd.ntmps96
  go_wp2
  go_ret
  exact ⟨rfl, rfl⟩
/-- what operator k makes of two numbers, if it is in range -/
def opE (k x y : Int) : Int × Int := if (opR k x y).2 ≠ 0 then (0, (opR k x y).2) else if inM (opR k x y).1 then ((opR k x y).1, 0) else (0, 14)

theorem mulBig_comm (x y : Int) (hx : inM x) (hy : inM y) : mulBig y x = mulBig x y := by
  have h1 := mul_big x y
  have h2 := mul_big y x
  have h3 := mul_bd x y hx hy
  have h4 := mul_bd y x hy hx
  rw [Int.mul_comm y x] at h2 h4
  cases ha : mulBig x y <;> cases hb : mulBig y x
  · rfl
  · exact absurd (h3 ha) (h2 hb)
  · exact absurd (h4 hb) (h1 ha)
  · rfl

theorem product_00 (a b : Int) (q0 : 1 ≤ a) (q1 : a ≤ 1099511627776) (q2 : 0 ≤ b) (q3 : b ≤ 1099511627776) : Does 95 #[.int .i64 (a), .int .i64 (b)] (if mulBig b a then .tuple #[.int .i64 0, .int .i64 14] else .tuple #[.int .i64 (a * b), .int .i64 0]) := by
  intro w
  have hm := Lib.hid (mul_bd b a ⟨by omega, by omega⟩ ⟨by omega, by omega⟩)
  have g1 : (a == 0) = false := by simp; omega
  have g2 : (a != 0) = true := by simp; omega
  have g3 : ¬ a < 0 := by omega
  have g4 : ¬ b < 0 := by omega
  have g5 : 0 < a := by omega
  skip
  have hd : mulBig b a = decide (1099511627776 / a < b) := by
    unfold mulBig
    have e1 : (a.natAbs : Int) = a := by omega
    have e2 : (b.natAbs : Int) = b := by omega
    have e3 : a ≠ 0 := by omega
    rw [e1, e2]; simp [e3]
  by_cases hb : 1099511627776 / a < b
  · have hz := Lib.hid (show mulBig b a = true by rw [hd]; simpa using hb)
    rw [hz.out]
    clear hd hm
    go_enter Tryd.func95, Tryd.ntmps95
    go_wp2
    go_ret2
    exact ⟨rfl, rfl⟩
  · have hz := Lib.hid (show mulBig b a = false by rw [hd]; simpa using hb)
    rw [hz.out]
    have hm2 := hm.out hz.out
    rw [Int.mul_comm] at hm2
    obtain ⟨m1, m2⟩ := hm2
    skip
    clear hd hm
    go_enter Tryd.func95, Tryd.ntmps95
    go_wp2
    go_ret2
    exact ⟨rfl, rfl⟩
theorem product_01 (a b : Int) (q0 : 1 ≤ a) (q1 : a ≤ 1099511627776) (q2 : 1 ≤ b) (q3 : b ≤ 1099511627776) : Does 95 #[.int .i64 (a), .int .i64 (-b)] (if mulBig b a then .tuple #[.int .i64 0, .int .i64 14] else .tuple #[.int .i64 (a * -b), .int .i64 0]) := by
  intro w
  have hm := Lib.hid (mul_bd b a ⟨by omega, by omega⟩ ⟨by omega, by omega⟩)
  have g1 : (a == 0) = false := by simp; omega
  have g2 : (a != 0) = true := by simp; omega
  have g3 : ¬ a < 0 := by omega
  have g4 : ¬ b < 0 := by omega
  have g5 : 0 < a := by omega
  have g6 : 0 < b := by omega
  have hd : mulBig b a = decide (1099511627776 / a < b) := by
    unfold mulBig
    have e1 : (a.natAbs : Int) = a := by omega
    have e2 : (b.natAbs : Int) = b := by omega
    have e3 : a ≠ 0 := by omega
    rw [e1, e2]; simp [e3]
  by_cases hb : 1099511627776 / a < b
  · have hz := Lib.hid (show mulBig b a = true by rw [hd]; simpa using hb)
    rw [hz.out]
    clear hd hm
    go_enter Tryd.func95, Tryd.ntmps95
    go_wp2
    go_ret2
    exact ⟨rfl, rfl⟩
  · have hz := Lib.hid (show mulBig b a = false by rw [hd]; simpa using hb)
    rw [hz.out]
    have hm2 := hm.out hz.out
    rw [Int.mul_comm] at hm2
    obtain ⟨m1, m2⟩ := hm2
    have m3 : -1099511627776 ≤ a * -b := by (first | rw [Int.neg_mul_neg] | rw [Int.mul_neg] | rw [Int.neg_mul]); omega
    have m4 : a * -b ≤ 1099511627776 := by (first | rw [Int.neg_mul_neg] | rw [Int.mul_neg] | rw [Int.neg_mul]); omega
    clear hd hm
    go_enter Tryd.func95, Tryd.ntmps95
    go_wp2
    go_ret2
    exact ⟨rfl, rfl⟩
theorem product_10 (a b : Int) (q0 : 1 ≤ a) (q1 : a ≤ 1099511627776) (q2 : 0 ≤ b) (q3 : b ≤ 1099511627776) : Does 95 #[.int .i64 (-a), .int .i64 (b)] (if mulBig b a then .tuple #[.int .i64 0, .int .i64 14] else .tuple #[.int .i64 (-a * b), .int .i64 0]) := by
  intro w
  have hm := Lib.hid (mul_bd b a ⟨by omega, by omega⟩ ⟨by omega, by omega⟩)
  have g1 : (a == 0) = false := by simp; omega
  have g2 : (a != 0) = true := by simp; omega
  have g3 : ¬ a < 0 := by omega
  have g4 : ¬ b < 0 := by omega
  have g5 : 0 < a := by omega
  skip
  have hd : mulBig b a = decide (1099511627776 / a < b) := by
    unfold mulBig
    have e1 : (a.natAbs : Int) = a := by omega
    have e2 : (b.natAbs : Int) = b := by omega
    have e3 : a ≠ 0 := by omega
    rw [e1, e2]; simp [e3]
  by_cases hb : 1099511627776 / a < b
  · have hz := Lib.hid (show mulBig b a = true by rw [hd]; simpa using hb)
    rw [hz.out]
    clear hd hm
    go_enter Tryd.func95, Tryd.ntmps95
    go_wp2
    go_ret2
    exact ⟨rfl, rfl⟩
  · have hz := Lib.hid (show mulBig b a = false by rw [hd]; simpa using hb)
    rw [hz.out]
    have hm2 := hm.out hz.out
    rw [Int.mul_comm] at hm2
    obtain ⟨m1, m2⟩ := hm2
    have m3 : -1099511627776 ≤ -a * b := by (first | rw [Int.neg_mul_neg] | rw [Int.mul_neg] | rw [Int.neg_mul]); omega
    have m4 : -a * b ≤ 1099511627776 := by (first | rw [Int.neg_mul_neg] | rw [Int.mul_neg] | rw [Int.neg_mul]); omega
    clear hd hm
    go_enter Tryd.func95, Tryd.ntmps95
    go_wp2
    go_ret2
    exact ⟨rfl, rfl⟩
theorem product_11 (a b : Int) (q0 : 1 ≤ a) (q1 : a ≤ 1099511627776) (q2 : 1 ≤ b) (q3 : b ≤ 1099511627776) : Does 95 #[.int .i64 (-a), .int .i64 (-b)] (if mulBig b a then .tuple #[.int .i64 0, .int .i64 14] else .tuple #[.int .i64 (-a * -b), .int .i64 0]) := by
  intro w
  have hm := Lib.hid (mul_bd b a ⟨by omega, by omega⟩ ⟨by omega, by omega⟩)
  have g1 : (a == 0) = false := by simp; omega
  have g2 : (a != 0) = true := by simp; omega
  have g3 : ¬ a < 0 := by omega
  have g4 : ¬ b < 0 := by omega
  have g5 : 0 < a := by omega
  have g6 : 0 < b := by omega
  have hd : mulBig b a = decide (1099511627776 / a < b) := by
    unfold mulBig
    have e1 : (a.natAbs : Int) = a := by omega
    have e2 : (b.natAbs : Int) = b := by omega
    have e3 : a ≠ 0 := by omega
    rw [e1, e2]; simp [e3]
  by_cases hb : 1099511627776 / a < b
  · have hz := Lib.hid (show mulBig b a = true by rw [hd]; simpa using hb)
    rw [hz.out]
    clear hd hm
    go_enter Tryd.func95, Tryd.ntmps95
    go_wp2
    go_ret2
    exact ⟨rfl, rfl⟩
  · have hz := Lib.hid (show mulBig b a = false by rw [hd]; simpa using hb)
    rw [hz.out]
    have hm2 := hm.out hz.out
    rw [Int.mul_comm] at hm2
    obtain ⟨m1, m2⟩ := hm2
    have m3 : -1099511627776 ≤ -a * -b := by (first | rw [Int.neg_mul_neg] | rw [Int.mul_neg] | rw [Int.neg_mul]); omega
    have m4 : -a * -b ≤ 1099511627776 := by (first | rw [Int.neg_mul_neg] | rw [Int.mul_neg] | rw [Int.neg_mul]); omega
    clear hd hm
    go_enter Tryd.func95, Tryd.ntmps95
    go_wp2
    go_ret2
    exact ⟨rfl, rfl⟩
theorem product_0 (y : Int) (hy : inM y) : Does 95 #[.int .i64 0, .int .i64 y] (.tuple #[.int .i64 0, .int .i64 0]) := by
  intro w
  have q3 := hy.1
  have q4 := hy.2
  by_cases sy : y < 0
  · go_enter Tryd.func95, Tryd.ntmps95
    go_wp2
    go_ret2
    exact ⟨rfl, rfl⟩
  · go_enter Tryd.func95, Tryd.ntmps95
    go_wp2
    go_ret2
    exact ⟨rfl, rfl⟩
theorem product_any (x y : Int) (hx : inM x) (hy : inM y) : Does 95 #[.int .i64 x, .int .i64 y] (.tuple #[.int .i64 (if mulBig x y then 0 else x * y), .int .i64 (if mulBig x y then 14 else 0)]) := by
  rw [← mulBig_comm x y hx hy]
  by_cases h0 : x = 0
  · subst h0
    have := product_0 y hy
    simpa [mulBig] using this
  · have : Does 95 #[.int .i64 x, .int .i64 y] (if mulBig y x then .tuple #[.int .i64 0, .int .i64 14] else .tuple #[.int .i64 (x * y), .int .i64 0]) := by
      have q1 := hx.1
      have q2 := hx.2
      have q3 := hy.1
      have q4 := hy.2
      rcases Int.lt_or_le x 0 with sx | sx <;> rcases Int.lt_or_le y 0 with sy | sy
      · have := product_11 (-x) (-y) (by omega) (by omega) (by omega) (by omega)
        simpa [mulBig] using this
      · have := product_10 (-x) y (by omega) (by omega) (by omega) (by omega)
        simpa [mulBig] using this
      · have := product_01 x (-y) (by omega) (by omega) (by omega) (by omega)
        simpa [mulBig] using this
      · exact product_00 x y (by omega) (by omega) (by omega) (by omega)
    cases hb : mulBig y x <;> simpa [hb] using this

end Go.Proofs.YtgkalcboklhdgaaDoor

namespace Go.Proofs.YtgkalcboklhdgaaDoor
open Go.RowKit
set_option linter.unusedVariables false
set_option linter.unusedSimpArgs false

theorem opE_0 {k x y r : Int} (h : opR k x y = (r, 0)) (hr : inM r) : opE k x y = (r, 0) := by simp [opE, h, hr]
theorem opE_e {k x y r e : Int} (h : opR k x y = (r, e)) (he : e ≠ 0) : opE k x y = (0, e) := by simp [opE, h, he]
theorem opE_o {k x y r : Int} (h : opR k x y = (r, 0)) (hr : ¬ inM r) : opE k x y = (0, 14) := by simp [opE, h, hr]
theorem inM_01 (b : Bool) : inM (if b then 1 else 0) := by cases b <;> decide
def DoesOp (k x y : Int) (r : Int × Int) : Prop := Does 66 #[.int .i64 k, .int .i64 x, .int .i64 y] (.tuple #[.int .i64 r.1, .int .i64 r.2])

theorem Operate_3 (x y : Int) (hx : inM x) (hy : inM y) : DoesOp 3 x y (opE 3 x y) := by
  have hr : opR 3 x y = (x + y, 0) := rfl
  by_cases h : inM (x + y)
  · rw [opE_0 hr h]
    intro w
    obtain ⟨h1, h2⟩ := hx
    obtain ⟨h3, h4⟩ := hy
    obtain ⟨h5, h6⟩ := h
    have h7 : ¬ x + y < -1099511627776 := by omega
    have h8 : ¬ 1099511627776 < x + y := by omega
    clear hr
    dsimp only
    go_enter Tryd.func66, Tryd.ntmps66
    go_wp2
    go_ret2
    exact ⟨rfl, rfl⟩
  · rw [opE_o hr h]
    intro w
    obtain ⟨h1, h2⟩ := hx
    obtain ⟨h3, h4⟩ := hy
    rcases Int.lt_or_le (x + y) (-1099511627776) with h5 | h5
    · clear hr h
      dsimp only
      go_enter Tryd.func66, Tryd.ntmps66
      go_wp2
      go_ret2
      exact ⟨rfl, rfl⟩
    · have h6 : 1099511627776 < x + y := by unfold inM at h; omega
      clear hr h
      dsimp only
      go_enter Tryd.func66, Tryd.ntmps66
      go_wp2
      go_ret2
      exact ⟨rfl, rfl⟩
theorem Operate_4 (x y : Int) (hx : inM x) (hy : inM y) : DoesOp 4 x y (opE 4 x y) := by
  have hr : opR 4 x y = (x - y, 0) := rfl
  by_cases h : inM (x - y)
  · rw [opE_0 hr h]
    intro w
    obtain ⟨h1, h2⟩ := hx
    obtain ⟨h3, h4⟩ := hy
    obtain ⟨h5, h6⟩ := h
    have h7 : ¬ x - y < -1099511627776 := by omega
    have h8 : ¬ 1099511627776 < x - y := by omega
    clear hr
    dsimp only
    go_enter Tryd.func66, Tryd.ntmps66
    go_wp2
    go_ret2
    exact ⟨rfl, rfl⟩
  · rw [opE_o hr h]
    intro w
    obtain ⟨h1, h2⟩ := hx
    obtain ⟨h3, h4⟩ := hy
    rcases Int.lt_or_le (x - y) (-1099511627776) with h5 | h5
    · clear hr h
      dsimp only
      go_enter Tryd.func66, Tryd.ntmps66
      go_wp2
      go_ret2
      exact ⟨rfl, rfl⟩
    · have h6 : 1099511627776 < x - y := by unfold inM at h; omega
      clear hr h
      dsimp only
      go_enter Tryd.func66, Tryd.ntmps66
      go_wp2
      go_ret2
      exact ⟨rfl, rfl⟩
theorem Operate_5 (x y : Int) (hx : inM x) (hy : inM y) : DoesOp 5 x y (opE 5 x y) := by
  have P := product_any x y hx hy
  have hm := mul_bd x y hx hy
  cases hb : mulBig x y
  · rw [opE_0 (r := x * y) (by simp [opR, hb]) (hm hb)]
    simp only [hb, Bool.false_eq_true, if_false] at P
    intro w
    have P1 := P w
    generalize x * y = z at *
    clear P hm hb hx hy
    dsimp only
    go_enter Tryd.func66, Tryd.ntmps66
    go_wp2_with fail
    refine (P1).mono ?_
    rintro e w' ⟨rfl, rfl⟩
    go_wp2
    go_ret2
    exact ⟨rfl, rfl⟩
  · rw [opE_e (r := 0) (e := 14) (by simp [opR, hb]) (by decide)]
    simp only [hb, if_true] at P
    intro w
    have P1 := P w
    clear P hm hb hx hy
    dsimp only
    go_enter Tryd.func66, Tryd.ntmps66
    go_wp2_with fail
    refine (P1).mono ?_
    rintro e w' ⟨rfl, rfl⟩
    go_wp2
    go_ret2
    exact ⟨rfl, rfl⟩
theorem Operate_6 (x y : Int) (hx : inM x) (hy : inM y) : DoesOp 6 x y (opE 6 x y) := by
  by_cases h0 : y = 0
  · subst h0
    rw [opE_e (r := 0) (e := 24) (by simp [opR]) (by decide)]
    intro w
    clear hx hy
    dsimp only
    go_enter Tryd.func66, Tryd.ntmps66
    go_wp2
    go_ret2
    exact ⟨rfl, rfl⟩
  · have hb : inM (x.tdiv y) := tdiv_bd x y hx h0
    rw [opE_0 (r := x.tdiv y) (by simp [opR, h0]) hb]
    intro w
    obtain ⟨h1, h2⟩ := hx
    obtain ⟨h3, h4⟩ := hy
    obtain ⟨h5, h6⟩ := hb
    have h7 : ¬ x.tdiv y < -1099511627776 := by omega
    have h8 : ¬ 1099511627776 < x.tdiv y := by omega
    have g1 : (y == 0) = false := by simpa using h0
    have g2 : (y != 0) = true := by simpa using h0
    dsimp only
    go_enter Tryd.func66, Tryd.ntmps66
    go_wp2
    go_ret2
    exact ⟨rfl, rfl⟩
theorem Operate_7 (x y : Int) (hx : inM x) (hy : inM y) : DoesOp 7 x y (opE 7 x y) := by
  by_cases h0 : y = 0
  · subst h0
    rw [opE_e (r := 0) (e := 24) (by simp [opR]) (by decide)]
    intro w
    clear hx hy
    dsimp only
    go_enter Tryd.func66, Tryd.ntmps66
    go_wp2
    go_ret2
    exact ⟨rfl, rfl⟩
  · have hb : inM (x.tmod y) := tmod_bd x y hx
    rw [opE_0 (r := x.tmod y) (by simp [opR, h0]) hb]
    intro w
    obtain ⟨h1, h2⟩ := hx
    obtain ⟨h3, h4⟩ := hy
    obtain ⟨h5, h6⟩ := hb
    have h7 : ¬ x.tmod y < -1099511627776 := by omega
    have h8 : ¬ 1099511627776 < x.tmod y := by omega
    have g1 : (y == 0) = false := by simpa using h0
    have g2 : (y != 0) = true := by simpa using h0
    dsimp only
    go_enter Tryd.func66, Tryd.ntmps66
    go_wp2
    go_ret2
    exact ⟨rfl, rfl⟩
theorem Operate_8 (x y : Int) : DoesOp 8 x y (opE 8 x y) := by
  by_cases h : x = y
  · rw [opE_0 (r := 1) (by simp [opR, truB, h]) (by decide)]
    intro w
    subst h
    dsimp only
    go_enter Tryd.func66, Tryd.ntmps66
    go_wp2_with fail
    refine (refnumber_t _).mono ?_
    rintro e w' ⟨rfl, rfl⟩
    go_wp2
    go_ret2
    exact ⟨rfl, rfl⟩
  · rw [opE_0 (r := 0) (by simp [opR, truB, h]) (by decide)]
    intro w
    have g1 : (x == y) = false := by simpa using h
    have g2 : (x != y) = true := by simpa using h
    clear h
    dsimp only
    go_enter Tryd.func66, Tryd.ntmps66
    go_wp2_with fail
    refine (refnumber_f _).mono ?_
    rintro e w' ⟨rfl, rfl⟩
    go_wp2
    go_ret2
    exact ⟨rfl, rfl⟩
theorem Operate_9 (x y : Int) : DoesOp 9 x y (opE 9 x y) := by
  by_cases h : x ≠ y
  · rw [opE_0 (r := 1) (by simp [opR, truB, h]) (by decide)]
    intro w
    have g1 : (x == y) = false := by simpa using h
    have g2 : (x != y) = true := by simpa using h
    clear h
    dsimp only
    go_enter Tryd.func66, Tryd.ntmps66
    go_wp2_with fail
    refine (refnumber_t _).mono ?_
    rintro e w' ⟨rfl, rfl⟩
    go_wp2
    go_ret2
    exact ⟨rfl, rfl⟩
  · rw [opE_0 (r := 0) (by simp [opR, truB, h]) (by decide)]
    intro w
    have h' : x = y := by simpa using h
    clear h
    subst h'
    dsimp only
    go_enter Tryd.func66, Tryd.ntmps66
    go_wp2_with fail
    refine (refnumber_f _).mono ?_
    rintro e w' ⟨rfl, rfl⟩
    go_wp2
    go_ret2
    exact ⟨rfl, rfl⟩
theorem Operate_10 (x y : Int) : DoesOp 10 x y (opE 10 x y) := by
  by_cases h : x < y
  · rw [opE_0 (r := 1) (by simp [opR, truB, h]) (by decide)]
    intro w
    skip
    dsimp only
    go_enter Tryd.func66, Tryd.ntmps66
    go_wp2_with fail
    refine (refnumber_t _).mono ?_
    rintro e w' ⟨rfl, rfl⟩
    go_wp2
    go_ret2
    exact ⟨rfl, rfl⟩
  · rw [opE_0 (r := 0) (by simp [opR, truB, h]) (by decide)]
    intro w
    skip
    dsimp only
    go_enter Tryd.func66, Tryd.ntmps66
    go_wp2_with fail
    refine (refnumber_f _).mono ?_
    rintro e w' ⟨rfl, rfl⟩
    go_wp2
    go_ret2
    exact ⟨rfl, rfl⟩
theorem Operate_11 (x y : Int) : DoesOp 11 x y (opE 11 x y) := by
  by_cases h : x ≤ y
  · rw [opE_0 (r := 1) (by simp [opR, truB, h]) (by decide)]
    intro w
    skip
    dsimp only
    go_enter Tryd.func66, Tryd.ntmps66
    go_wp2_with fail
    refine (refnumber_t _).mono ?_
    rintro e w' ⟨rfl, rfl⟩
    go_wp2
    go_ret2
    exact ⟨rfl, rfl⟩
  · rw [opE_0 (r := 0) (by simp [opR, truB, h]) (by decide)]
    intro w
    have h' : y < x := by omega
    have h3 : decide (x ≤ y) = false := by simpa using h
    clear h
    dsimp only
    go_enter Tryd.func66, Tryd.ntmps66
    go_wp2_with fail
    refine (refnumber_f _).mono ?_
    rintro e w' ⟨rfl, rfl⟩
    go_wp2
    go_ret2
    exact ⟨rfl, rfl⟩
theorem Operate_12 (x y : Int) : DoesOp 12 x y (opE 12 x y) := by
  by_cases h : y < x
  · rw [opE_0 (r := 1) (by simp [opR, truB, h]) (by decide)]
    intro w
    skip
    dsimp only
    go_enter Tryd.func66, Tryd.ntmps66
    go_wp2_with fail
    refine (refnumber_t _).mono ?_
    rintro e w' ⟨rfl, rfl⟩
    go_wp2
    go_ret2
    exact ⟨rfl, rfl⟩
  · rw [opE_0 (r := 0) (by simp [opR, truB, h]) (by decide)]
    intro w
    skip
    dsimp only
    go_enter Tryd.func66, Tryd.ntmps66
    go_wp2_with fail
    refine (refnumber_f _).mono ?_
    rintro e w' ⟨rfl, rfl⟩
    go_wp2
    go_ret2
    exact ⟨rfl, rfl⟩
theorem Operate_13 (x y : Int) : DoesOp 13 x y (opE 13 x y) := by
  by_cases h : y ≤ x
  · rw [opE_0 (r := 1) (by simp [opR, truB, h]) (by decide)]
    intro w
    skip
    dsimp only
    go_enter Tryd.func66, Tryd.ntmps66
    go_wp2_with fail
    refine (refnumber_t _).mono ?_
    rintro e w' ⟨rfl, rfl⟩
    go_wp2
    go_ret2
    exact ⟨rfl, rfl⟩
  · rw [opE_0 (r := 0) (by simp [opR, truB, h]) (by decide)]
    intro w
    have h' : x < y := by omega
    have h3 : decide (y ≤ x) = false := by simpa using h
    clear h
    dsimp only
    go_enter Tryd.func66, Tryd.ntmps66
    go_wp2_with fail
    refine (refnumber_f _).mono ?_
    rintro e w' ⟨rfl, rfl⟩
    go_wp2
    go_ret2
    exact ⟨rfl, rfl⟩
theorem Operate_14 (x y : Int) : DoesOp 14 x y (opE 14 x y) := by
  by_cases h : x = 0 <;> by_cases g : y = 0
  · rw [opE_0 (r := 0) (by simp [opR, truB, h, g]) (by decide)]
    intro w
    subst h
    subst g
    dsimp only
    go_enter Tryd.func66, Tryd.ntmps66
    go_wp2_with fail
    refine (refnumber_f _).mono ?_
    rintro e w' ⟨rfl, rfl⟩
    go_wp2
    go_ret2
    exact ⟨rfl, rfl⟩
  · rw [opE_0 (r := 0) (by simp [opR, truB, h, g]) (by decide)]
    intro w
    subst h
    have g3 : (y == 0) = false := by simpa using g
    have g4 : (y != 0) = true := by simpa using g
    clear g
    dsimp only
    go_enter Tryd.func66, Tryd.ntmps66
    go_wp2_with fail
    refine (refnumber_f _).mono ?_
    rintro e w' ⟨rfl, rfl⟩
    go_wp2
    go_ret2
    exact ⟨rfl, rfl⟩
  · rw [opE_0 (r := 0) (by simp [opR, truB, h, g]) (by decide)]
    intro w
    have g1 : (x == 0) = false := by simpa using h
    have g2 : (x != 0) = true := by simpa using h
    clear h
    subst g
    dsimp only
    go_enter Tryd.func66, Tryd.ntmps66
    go_wp2_with fail
    refine (refnumber_f _).mono ?_
    rintro e w' ⟨rfl, rfl⟩
    go_wp2
    go_ret2
    exact ⟨rfl, rfl⟩
  · rw [opE_0 (r := 1) (by simp [opR, truB, h, g]) (by decide)]
    intro w
    have g1 : (x == 0) = false := by simpa using h
    have g2 : (x != 0) = true := by simpa using h
    clear h
    have g3 : (y == 0) = false := by simpa using g
    have g4 : (y != 0) = true := by simpa using g
    clear g
    dsimp only
    go_enter Tryd.func66, Tryd.ntmps66
    go_wp2_with fail
    refine (refnumber_t _).mono ?_
    rintro e w' ⟨rfl, rfl⟩
    go_wp2
    go_ret2
    exact ⟨rfl, rfl⟩
theorem Operate_15 (x y : Int) : DoesOp 15 x y (opE 15 x y) := by
  by_cases h : x = 0 <;> by_cases g : y = 0
  · rw [opE_0 (r := 0) (by simp [opR, truB, h, g]) (by decide)]
    intro w
    subst h
    subst g
    dsimp only
    go_enter Tryd.func66, Tryd.ntmps66
    go_wp2_with fail
    refine (refnumber_f _).mono ?_
    rintro e w' ⟨rfl, rfl⟩
    go_wp2
    go_ret2
    exact ⟨rfl, rfl⟩
  · rw [opE_0 (r := 1) (by simp [opR, truB, h, g]) (by decide)]
    intro w
    subst h
    have g3 : (y == 0) = false := by simpa using g
    have g4 : (y != 0) = true := by simpa using g
    clear g
    dsimp only
    go_enter Tryd.func66, Tryd.ntmps66
    go_wp2_with fail
    refine (refnumber_t _).mono ?_
    rintro e w' ⟨rfl, rfl⟩
    go_wp2
    go_ret2
    exact ⟨rfl, rfl⟩
  · rw [opE_0 (r := 1) (by simp [opR, truB, h, g]) (by decide)]
    intro w
    have g1 : (x == 0) = false := by simpa using h
    have g2 : (x != 0) = true := by simpa using h
    clear h
    subst g
    dsimp only
    go_enter Tryd.func66, Tryd.ntmps66
    go_wp2_with fail
    refine (refnumber_t _).mono ?_
    rintro e w' ⟨rfl, rfl⟩
    go_wp2
    go_ret2
    exact ⟨rfl, rfl⟩
  · rw [opE_0 (r := 1) (by simp [opR, truB, h, g]) (by decide)]
    intro w
    have g1 : (x == 0) = false := by simpa using h
    have g2 : (x != 0) = true := by simpa using h
    clear h
    have g3 : (y == 0) = false := by simpa using g
    have g4 : (y != 0) = true := by simpa using g
    clear g
    dsimp only
    go_enter Tryd.func66, Tryd.ntmps66
    go_wp2_with fail
    refine (refnumber_t _).mono ?_
    rintro e w' ⟨rfl, rfl⟩
    go_wp2
    go_ret2
    exact ⟨rfl, rfl⟩
theorem Operate_any (k x y : Int) (h1 : 3 ≤ k) (h2 : k ≤ 15) (hx : inM x) (hy : inM y) : DoesOp k x y (opE k x y) := by
  have hk : k = 3 ∨ k = 4 ∨ k = 5 ∨ k = 6 ∨ k = 7 ∨ k = 8 ∨ k = 9 ∨ k = 10 ∨ k = 11 ∨ k = 12 ∨ k = 13 ∨ k = 14 ∨ k = 15 := by omega
  rcases hk with rfl | rfl | rfl | rfl | rfl | rfl | rfl | rfl | rfl | rfl | rfl | rfl | rfl
  · exact Operate_3 x y hx hy
  · exact Operate_4 x y hx hy
  · exact Operate_5 x y hx hy
  · exact Operate_6 x y hx hy
  · exact Operate_7 x y hx hy
  · exact Operate_8 x y
  · exact Operate_9 x y
  · exact Operate_10 x y
  · exact Operate_11 x y
  · exact Operate_12 x y
  · exact Operate_13 x y
  · exact Operate_14 x y
  · exact Operate_15 x y

end Go.Proofs.YtgkalcboklhdgaaDoor

namespace Go.Proofs.YtgkalcboklhdgaaDoor
open Go.RowKit
set_option linter.unusedVariables false
set_option linter.unusedSimpArgs false
open Ex

/-- what a function yields at the elements of a list: the first error, or the numbers -/
def mapE (f : Ex → Int × Int) : List Ex → Int × List Int
  | [] => (0, [])
  | e :: es => if (f e).2 ≠ 0 then ((f e).2, []) else ((mapE f es).1, (f e).1 :: (mapE f es).2)
theorem mapE_take (f : Ex → Int × Int) (ts : List Ex) (j : Nat) (h : j < ts.length) (h0 : (mapE f (ts.take j)).1 = 0) :
    ((f ts[j]).2 ≠ 0 → (mapE f ts).1 = (f ts[j]).2) ∧ ((f ts[j]).2 = 0 → mapE f (ts.take (j + 1)) = (0, (mapE f (ts.take j)).2 ++ [(f ts[j]).1])) := by
  induction ts generalizing j with
  | nil => simp at h
  | cons t ts ih =>
    cases j with
    | zero =>
      constructor
      · intro h1; simp only [List.getElem_cons_zero] at h1 ⊢; simp [mapE, h1]
      · intro h1; simp only [List.getElem_cons_zero] at h1; simp [mapE, h1]
    | succ j =>
      have hj : j < ts.length := by simpa using h
      rw [List.take_succ_cons, mapE] at h0
      by_cases ht : (f t).2 = 0
      · rw [if_neg (by simp [ht])] at h0
        obtain ⟨i1, i2⟩ := ih j hj h0
        simp only [List.getElem_cons_succ, List.take_succ_cons]
        constructor
        · intro h1; simp only [mapE, ht, ne_eq, not_true_eq_false, if_false]; exact i1 h1
        · intro h1
          have := i2 h1
          simp only [mapE, ht, ne_eq, not_true_eq_false, if_false, List.cons_append]
          rw [this]
      · rw [if_pos ht] at h0
        exact absurd h0 ht
theorem mapE_len (f : Ex → Int × Int) (ts : List Ex) (h : (mapE f ts).1 = 0) : (mapE f ts).2.length = ts.length := by
  induction ts with
  | nil => rfl
  | cons t ts ih =>
    rw [mapE] at h ⊢
    by_cases ht : (f t).2 = 0
    · rw [if_neg (by simp [ht])] at h ⊢
      simp [ih h]
    · rw [if_pos ht] at h; exact absurd h ht

/-- the type of a part whose arguments have the types l -/
def tyN (bs : List Bn) (k o : Int) (n : List UInt8) (l : List Int) : Int × Int :=
  if k = 1 then (1, 0) else if k = 2 then (if fdIs bs n then ((fdB bs n).type, 0) else (0, 7)) else
  if k = 3 then (if l.getD 0 0 = (if o = 2 then 2 else 1) then (if o = 2 then 2 else 1, 0) else (0, 15)) else
  if l.getD 0 0 = l.getD 1 0 ∧ ((opOf o).arg = 0 ∨ l.getD 0 0 = (opOf o).arg) then ((opOf o).res, 0) else (0, 15)
mutual
/-- the type of an expression, and its error -/
def Ex.ty (bs : List Bn) : Ex → Int × Int
  | .mk k o n _ ts => if (Ex.tys bs ts).1 ≠ 0 then (0, (Ex.tys bs ts).1) else tyN bs k o n (Ex.tys bs ts).2
def Ex.tys (bs : List Bn) : List Ex → Int × List Int
  | [] => (0, [])
  | e :: es => if (e.ty bs).2 ≠ 0 then ((e.ty bs).2, []) else ((Ex.tys bs es).1, (e.ty bs).1 :: (Ex.tys bs es).2)
end
theorem tys_map (bs : List Bn) (ts : List Ex) : Ex.tys bs ts = mapE (Ex.ty bs) ts := by
  induction ts with
  | nil => rfl
  | cons t ts ih => simp only [Ex.tys, mapE, ih]
/-- the value of a part whose arguments have the values l -/
def evN (bs : List Bn) (k o : Int) (n : List UInt8) (v : Int) (l : List Int) : Int × Int :=
  if k = 1 then (v, 0) else if k = 2 then ((fdB bs n).value, 0) else
  if k = 3 then (if o = 2 then 1 - l.getD 0 0 else - l.getD 0 0, 0) else opE o (l.getD 0 0) (l.getD 1 0)
mutual
/-- the value of an expression, and its error -/
def Ex.ev (bs : List Bn) : Ex → Int × Int
  | .mk k o n v ts => if (Ex.evs bs ts).1 ≠ 0 then (0, (Ex.evs bs ts).1) else evN bs k o n v (Ex.evs bs ts).2
def Ex.evs (bs : List Bn) : List Ex → Int × List Int
  | [] => (0, [])
  | e :: es => if (e.ev bs).2 ≠ 0 then ((e.ev bs).2, []) else ((Ex.evs bs es).1, (e.ev bs).1 :: (Ex.evs bs es).2)
end
theorem evs_map (bs : List Bn) (ts : List Ex) : Ex.evs bs ts = mapE (Ex.ev bs) ts := by
  induction ts with
  | nil => rfl
  | cons t ts ih => simp only [Ex.evs, mapE, ih]

/-- a valid part, and valid arguments -/
theorem fe_mk {k o : Int} {n : List UInt8} {v : Int} {ts : List Ex} (h : (Ex.mk k o n v ts).fe = 0) : pc' k o n v ts.length = 0 ∧ fes ts = 0 := by
  simp only [Ex.fe] at h
  by_cases hp : pc' k o n v ts.length = 0
  · rw [if_neg (by simp [hp])] at h; exact ⟨hp, h⟩
  · rw [if_pos hp] at h; exact absurd h hp
theorem fes_get {ts : List Ex} (h : fes ts = 0) (j : Nat) (hj : j < ts.length) : (ts[j]).fe = 0 := by
  induction ts generalizing j with
  | nil => simp at hj
  | cons t ts ih =>
    rw [fes] at h
    by_cases ht : t.fe = 0
    · rw [if_neg (by simp [ht])] at h
      cases j with
      | zero => exact ht
      | succ j => exact ih h j (by simpa using hj)
    · rw [if_pos ht] at h; exact absurd h ht
/-- the kinds of valid parts -/
theorem pc_zero {k o : Int} {n : List UInt8} {v : Int} {m : Nat} (h : pc' k o n v m = 0) :
    (k = 1 ∧ o = 0 ∧ n = [] ∧ m = 0 ∧ 0 ≤ v ∧ v ≤ 1099511627776) ∨ (k = 2 ∧ o = 0 ∧ v = 0 ∧ m = 0 ∧ isNm n = true) ∨
    (k = 3 ∧ n = [] ∧ v = 0 ∧ m = 1 ∧ (o = 1 ∨ o = 2)) ∨ (k = 4 ∧ n = [] ∧ v = 0 ∧ m = 2 ∧ 3 ≤ o ∧ o ≤ 15) := by
  revert h
  refine pc_ind (Q := fun k o n v m r => r = 0 → (k = 1 ∧ o = 0 ∧ n = [] ∧ m = 0 ∧ 0 ≤ v ∧ v ≤ 1099511627776) ∨ (k = 2 ∧ o = 0 ∧ v = 0 ∧ m = 0 ∧ isNm n = true) ∨ (k = 3 ∧ n = [] ∧ v = 0 ∧ m = 1 ∧ (o = 1 ∨ o = 2)) ∨ (k = 4 ∧ n = [] ∧ v = 0 ∧ m = 2 ∧ 3 ≤ o ∧ o ≤ 15)) ?_ ?_ ?_ ?_ ?_ ?_ ?_ ?_ ?_ ?_ ?_ ?_ ?_ ?_ ?_ ?_ ?_ ?_ ?_ ?_ ?_ ?_ ?_ ?_ ?_ k o n v m
  all_goals first
    | (intro a1 a2 a3 a4 a5 h; exact absurd h (by decide))
    | (intro a1 a2 a3 a4 h; exact absurd h (by decide))
    | (intro a1 a2 a3 h; exact absurd h (by decide))
    | (intro a1 a2 h; exact absurd h (by decide))
    | (intro a1 a2 a3 a4 a5 a6 h; exact absurd h (by decide))
    | (intro v h1 h2 _; exact .inl ⟨rfl, rfl, rfl, rfl, by omega, by omega⟩)
    | (intro n h1 _; exact .inr (.inl ⟨rfl, rfl, rfl, rfl, h1⟩))
    | (intro _ _; exact .inr (.inr (.inl ⟨rfl, rfl, rfl, rfl, by omega⟩)))
    | (intro o h1 h2 _; exact .inr (.inr (.inr ⟨rfl, rfl, rfl, rfl, by omega, by omega⟩)))

end Go.Proofs.YtgkalcboklhdgaaDoor

namespace Go.Proofs.YtgkalcboklhdgaaDoor
open Go.RowKit
set_option linter.unusedVariables false

/-- a slice of integers that came in -/
def IsRow (k : IntKind) (w : World) (a : Option Addr) (len cap : Nat) (zs : List Int) : Prop :=
  (a = none ∧ len = 0 ∧ cap = 0 ∧ zs = []) ∨
  ∃ x, a = some x ∧ len ≤ cap ∧ cap ≤ maxLen ∧ zs.length = cap ∧ (∀ i, i < zs.length → w.cell? (x.add i) = some (.int k (zs.getD i 0))) ∧ ∀ n ∈ zs, (Lit.int k n).wf = true

/-- the slice at a holds the integers l -/
def IntsAt (w : World) (a : Option Addr) (l : List Int) : Prop := ∀ i (h : i < l.length), ∃ b off, a = some ⟨b, off, none⟩ ∧ w.cell? ⟨b, off + i, none⟩ = some (.int .i64 l[i])
theorem cell_lt {w : World} {a : Addr} {v : Value} (h : w.cell? a = some v) : a.block < w.heap.size := by
  unfold World.cell? at h
  split at h
  · rename_i hx; exact lt_of_block hx
  · cases h
theorem IntsAt.below {w W : World} {a : Option Addr} {l : List Int} (h : IntsAt w a l) (hE : Below w.heap.size w W) : IntsAt W a l := fun i hi => by
  obtain ⟨b, off, e, hc⟩ := h i hi
  exact ⟨b, off, e, (hE.cell (p := ⟨b, off + i, none⟩) (cell_lt hc)).trans hc⟩
theorem IntsAt.at {w : World} {a : Option Addr} {l : List Int} (h : IntsAt w a l) {i : Nat} (hi : i < l.length) : ∃ b off, a = some ⟨b, off, none⟩ ∧ w.cell? ⟨b, off + i, none⟩ = some (.int .i64 l[i]) := h i hi
theorem IntsAt.nil {w : World} {a : Option Addr} : IntsAt w a [] := fun i hi => by simp at hi
theorem IsRow.ints {w : World} {a : Option Addr} {len cap : Nat} {zs : List Int} (h : IsRow .i64 w a len cap zs) :
    ∃ l : List Int, l.length = len ∧ len ≤ maxLen ∧ IntsAt w a l ∧ ∀ n ∈ l, -9223372036854775808 ≤ n ∧ n ≤ 9223372036854775807 := by
  rcases h with ⟨rfl, rfl, rfl, rfl⟩ | ⟨x, rfl, hl, hm, hz, hcell, hwz⟩
  · exact ⟨[], rfl, by simp, IntsAt.nil, by simp⟩
  · refine ⟨zs.take len, by simp; omega, by omega, fun i hi => ?_, fun n hn => i64_bd (hwz n (List.mem_of_mem_take hn))⟩
    have hi2 : i < zs.length := by simp at hi; omega
    have hc := hcell i hi2
    obtain ⟨b, off, spot⟩ := x
    have hspot : spot = none := by
      have := World.cell?_spot (hcell 0 (by omega))
      simpa [Addr.add] using this
    subst hspot
    refine ⟨b, off, rfl, ?_⟩
    have e : (⟨b, off, none⟩ : Addr).add i = ⟨b, off + i, none⟩ := by unfold Addr.add; split <;> simp_all
    rw [e] at hc
    rw [hc]
    simp [List.getD_eq_getElem?_getD, hi2]


end Go.Proofs.YtgkalcboklhdgaaDoor

namespace Go.Proofs.YtgkalcboklhdgaaDoor
open Go.RowKit
set_option linter.unusedVariables false

theorem ownsRow_extI {base : Nat} {e : TypeId} {k : Nat} {v : Value} {n : Nat} {xs : List Value} {w w' : World} (h : w.ownsRow base e k v n xs) (hb : Below w.heap.size w w') : w'.ownsRow base e k v n xs :=
  h.kept (row := none) ⟨hb.os, hb.tape, hb.output, hb.size, fun i hi _ => hb.block i hi⟩ (by cases v.ownBlock with | none => exact .inl rfl | some j => exact .inr (by simp))
variable {ops : Array Oper} {rest : List Oper} {o : Oper} {a : Act} {Q : Exit → Act → World → Prop}
/-- v is a slice of integers of the call's own, holding l -/
def RowI (base : Nat) (v : Value) (l : List Int) (w : World) : Prop := w.ownsRow base 3 1 v l.length (l.map (Value.int .i64))
theorem infoI' : (Tryd.prog.info? 3).map (fun i => (i.zero, i.size, i.bytes)) = some (some (.int .i64 0), 1, 8) := by kernel_rfl
theorem RowI.nil (base : Nat) (w : World) : RowI base (.slice none 0 0) [] w := World.ownsRow_nil _ _ _ _
theorem RowI.empty (w : World) (base : Nat) (hb : base ≤ w.heap.size) : RowI base (.slice (some ⟨w.heap.size, 0, none⟩) 0 0) [] (w.alloc (.cells #[] 3)) :=
  World.ownsRow_lit w #[] 0 hb (by unfold maxLen; omega) (by simp)
theorem RowI.ext {base : Nat} {v : Value} {l : List Int} {w w' : World} (h : RowI base v l w) (hb : Below w.heap.size w w') : RowI base v l w' := ownsRow_extI h hb
theorem RowI.forms {base : Nat} {v : Value} {l : List Int} {w : World} (h : RowI base v l w) : (v = .slice none 0 0 ∧ l.length = 0) ∨ ∃ g cap, v = .slice (some ⟨g, 0, none⟩) l.length cap := Go.Joins.ownsRow_forms h
theorem RowI.ints {base : Nat} {v : Value} {l : List Int} {w : World} (h : RowI base v l w) : ∃ x c, v = .slice x l.length c ∧ IntsAt w x l ∧ (∀ y, x = some y → base ≤ y.block) ∧ (x = none → c = 0) := by
  rcases h.forms with ⟨rfl, h0⟩ | ⟨g, cap, rfl⟩
  · obtain rfl := List.eq_nil_of_length_eq_zero h0
    exact ⟨none, 0, rfl, IntsAt.nil, (fun y e => by cases e), fun _ => rfl⟩
  · refine ⟨_, _, rfl, fun i hi => ⟨_, _, rfl, ?_⟩, (fun y e => by cases e; exact (World.ownsRow.lt h g rfl).1), (fun e => by cases e)⟩
    rw [Nat.zero_add, World.ownsRow.cellAt h i (by omega)]
    simp [hi]

theorem wp_appI (hgd : o.guard = none) (s x : Operand) (ho : o.op = .call { callee := .builtin .append, args := #[s, x], argTypes := #[74, 74] })
    (base : Nat) (v : Value) (l : List Int) (hs : a.eval s = v) (W : World) (h : RowI base v l W) (n : Int) (hx : a.eval x = .slice (some ⟨W.heap.size, 0, none⟩) 1 1) (hlen : l.length ≤ 10000000000) (hbase : base ≤ W.heap.size)
    (hK : ∀ v' w', RowI base v' (l ++ [n]) w' → Below base W w' → wpList Tryd.prog ops Q rest (a.put o.dst v') w') : wpList Tryd.prog ops Q (o :: rest) a (W.alloc (.cells #[.int .i64 n] 3)) := by
  obtain ⟨i0, hi, hz0, hz1, hz2⟩ := info_parts infoI'
  refine wpList_append_own _ hgd s x 74 ho base 3 i0 (.int .i64 0) 1 8 Tryd.underlying74 hi hz0 hz1 hz2 rfl (by decide) v l.length (l.map (Value.int .i64)) hs (World.ownsRow.alloc h _) ⟨W.heap.size, 0, none⟩ 1 1 [.int .i64 n] hx rfl (cell_one_new _ _ _) (by simp [Value.oneCell']) (by unfold maxLen; omega) (by omega) (by simp; omega) ?_
  intro v' w' hown hg _
  refine hK v' w' ?_ ?_
  · unfold RowI
    simpa using hown
  · exact ((Below.refl base W).alloc hbase _).grown hg (by simp; omega) (fun k e => (World.ownsRow.lt h k e).1)

end Go.Proofs.YtgkalcboklhdgaaDoor

namespace Go.Proofs.YtgkalcboklhdgaaDoor
open Go.RowKit
set_option linter.unusedVariables false
set_option linter.unusedSimpArgs false
open Ex

/-- the cells of the variable that holds operator o -/
def opF (o : Int) (c : Array Value) : Prop := ∃ fv, c = #[sV (opOf o).sign, .int .i64 (opOf o).prec, .int .i64 (opOf o).arg, .int .i64 (opOf o).res, fv]
/-- the values of the region that looks a known operator up -/
def op25 (B Bd : Nat) (o : Int) : Nat → (Nat → Value) → World → Prop
  | 0, s, W => ∃ b, s 0 = .map (some b) ∧ OpsAt W b opL
  | 1, s, _ => s 1 = .pointer (some ⟨B, 1, none⟩)
  | 2, s, _ => s 2 = .int .i64 o
  | 3, s, _ => ∃ fv, s 3 = (opOf o).val fv ∧ fv.oneCell' = true
  | 4, s, W => ∃ g cc, s 4 = .pointer (some ⟨g, 0, none⟩) ∧ Bd ≤ g ∧ W.heap[g]? = some (.cells cc tOp (0, 0)) ∧ cc.size = 5
  | 5, s, W => ∃ g cc, s 4 = .pointer (some ⟨g, 0, none⟩) ∧ Bd ≤ g ∧ W.heap[g]? = some (.cells cc tOp (0, 0)) ∧ opF o cc
  | _, _, _ => True
def op25D : Nat → List Nat := fun j => if j = 5 then [4] else [j]
theorem op25_st (B Bd : Nat) (o : Int) : ∀ j s s' W W', op25 B Bd o j s W → (∀ i ∈ op25D j, s' i = s i) → Grow Bd tOp (opF o) W W' → op25 B Bd o j s' W' := by
  intro j s s' W W' h hs hG
  match j, h, hs with
  | 0, ⟨b, h1, h2⟩, hs => exact ⟨b, (hs 0 (by simp [op25D])).trans h1, h2.grow hG (by decide) (by decide)⟩
  | 1, h, hs => exact (hs 1 (by simp [op25D])).trans h
  | 2, h, hs => exact (hs 2 (by simp [op25D])).trans h
  | 3, ⟨fv, h1, h2⟩, hs => exact ⟨fv, (hs 3 (by simp [op25D])).trans h1, h2⟩
  | 4, ⟨g, cc, h1, h2, h3, h4⟩, hs =>
    obtain ⟨c', h5, h6⟩ := hG.turn h3
    exact ⟨g, c', (hs 4 (by simp [op25D])).trans h1, h2, h5, h6.trans h4⟩
  | 5, ⟨g, cc, h1, h2, h3, h4⟩, hs =>
    obtain ⟨c', h5, h6⟩ := hG.done h3 h4
    exact ⟨g, c', (hs 4 (by simp [op25D])).trans h1, h2, h5, h6⟩
  | n + 6, h, hs => exact trivial
theorem six {α : Type} (fs : List α) (h : fs.length = 6) : ∃ a b c d e f, fs = [a, b, c, d, e, f] := by
  match fs, h with
  | [a, b, c, d, e, f], _ => exact ⟨a, b, c, d, e, f, rfl⟩
theorem fnOk_one {W : World} {k : Int} {fv : Value} (h : FnOk W k fv) : fv.oneCell' = true := by
  rcases h with ⟨_, rfl⟩ | ⟨n, g, _, rfl, _⟩ | ⟨n, g, _, rfl, _⟩ | ⟨n, g, h, _, rfl, _⟩ <;> rfl

def i2V (r : Int × Int) : Value := .tuple #[.int .i64 r.1, .int .i64 r.2]
theorem opOf_arg (o : Int) (h : knownB o = true) : (opOf o).arg = 0 ∨ (opOf o).arg = 1 ∨ (opOf o).arg = 2 := by
  have hk' : 3 ≤ o ∧ o ≤ 15 := by simpa [knownB] using h
  have hk2 : o = 3 ∨ o = 4 ∨ o = 5 ∨ o = 6 ∨ o = 7 ∨ o = 8 ∨ o = 9 ∨ o = 10 ∨ o = 11 ∨ o = 12 ∨ o = 13 ∨ o = 14 ∨ o = 15 := by omega
  rcases hk2 with rfl | rfl | rfl | rfl | rfl | rfl | rfl | rfl | rfl | rfl | rfl | rfl | rfl <;> decide

set_option maxRecDepth 100000 in
set_option maxHeartbeats 8000000 in
theorem typed_any (bs : List Bn) (pb : Option Addr) (cb : Nat) : ∀ (n : Nat) (e : Ex), e.size ≤ n → ∀ (p : Option Addr) (c : Nat) (w : World), Ex.At w p e → BAt w pb bs → e.fe = 0 →
    Gives Tryd.prog 37 #[e.val p c, .slice pb bs.length cb] w (i2V (e.ty bs)) := by
  intro n
  induction n with
  | zero => intro e he; have := e.size_pos; omega
  | succ n ih =>
    intro e he p c w hA hBA hfe
    obtain ⟨k, o, nm, v, ts⟩ := e
    have HA := Lib.hid hA
    have hl : ts.length ≤ 2199023255488 := hA.fit.2.2.2.2
    have HS := Lib.hid (fun j (h : j < ts.length) => size_get ts j h)
    have hN : (Ex.mk k o nm v ts).size = 1 + sizes ts := rfl
    have hv : (Ex.mk k o nm v ts).val p c = .agg #[.int .i64 k, .int .i64 o, sV nm, .int .i64 v, .slice p ts.length c] := rfl
    rw [hv]
    have IH := Lib.hid ih
    clear hA hv ih
    have HBA := Lib.hid hBA
    obtain ⟨hpc, hfes⟩ := fe_mk hfe
    have HFE := Lib.hid (fun j hj => fes_get hfes j hj)
    have HM := Lib.hid (fun j h => mapE_take (Ex.ty bs) ts j h)
    have HL := Lib.hid (mapE_len (Ex.ty bs) ts)
    have HTY : (Ex.mk k o nm v ts).ty bs = if (mapE (Ex.ty bs) ts).1 ≠ 0 then (0, (mapE (Ex.ty bs) ts).1) else tyN bs k o nm (mapE (Ex.ty bs) ts).2 := by rw [← tys_map]; rfl
    have HPC := Lib.hid hpc
    have HT := Lib.hid HTY
    have hl100 : ts.length ≤ 2 := by rcases pc_zero hpc with h | h | h | h <;> omega
    generalize (Ex.mk k o nm v ts).ty bs = res at *
    clear hBA hfe hfes hpc HTY
    have hE0 : Ext w (w.alloc (.cells #[.int .i64 k, .int .i64 o, sV nm, .int .i64 v, .slice p ts.length c] 24)) := (Below.refl _ w).alloc (Nat.le_refl _) _
    have HE0 := Lib.hid hE0
    clear hE0
    unfold Gives
    go_enter Tryd.func37, Tryd.ntmps37
    go_wp2
    go_loopw [6, 18] (fun u i wr => ∃ (j : Nat), j ≤ ts.length ∧ i = .int .i64 (j : Int) ∧ RowI (w.heap.size + 1) u (mapE (Ex.ty bs) (ts.take j)).2 wr ∧ (mapE (Ex.ty bs) (ts.take j)).1 = 0 ∧ (mapE (Ex.ty bs) (ts.take j)).2.length = j ∧ Ext (w.alloc (.cells #[.int .i64 k, .int .i64 o, sV nm, .int .i64 v, .slice p ts.length c] 24)) wr) (fun _ i _ => ts.length - (intOf i).toNat)
    case atStart => exact ⟨0, Nat.zero_le _, rfl, RowI.nil _ _, rfl, rfl, Below.refl _ _⟩
    case round =>
      obtain ⟨j, hj, rfl, hrow, hm0, hmlen, hE⟩ := hrel
      obtain ⟨b0, b1, b2, b3, b4, hW⟩ := hE.box
      have HE := Lib.hid hE
      clear hE
      have HRow := Lib.hid hrow
      have HM0 := Lib.hid hm0
      have HML := Lib.hid hmlen
      clear hrow hm0 hmlen
      by_cases hlt : j < ts.length
      · obtain ⟨b, off, q, cc, rfl, hcs, hA0⟩ := HA.out.get j hlt
        obtain ⟨c0, c1, c2, c3, c4⟩ := hcs.below hW
        have hA := hA0.below hW
        clear hcs
        have hs := HS.out j hlt
        have hsz : (ts[j]).size ≤ n := by omega
        have C := Lib.hid (fun W (hA : Ex.At W q ts[j]) (hB : BAt W pb bs) => IH.out (ts[j]) hsz q cc W hA hB (HFE.out j hlt))
        unfold Gives at C
        obtain ⟨hno, hyes⟩ := HM.out j hlt HM0.out
        have hAbox : ∀ W, Ext wr W → Ex.At W q ts[j] := fun W h => hA.below h
        have HA2 := Lib.hid hAbox
        have HBw := Lib.hid (HBA.out.below hW)
        clear hA hAbox
        change Hid (∀ W, _ → _ → Calls _ _ #[.agg #[.int .i64 (ts[j]).kind, .int .i64 (ts[j]).op, sV (ts[j]).name, .int .i64 (ts[j]).value, .slice q (ts[j]).args.length cc], _] _ _) at C
        generalize (ts[j]).ty bs = tj at *
        obtain ⟨t1, t2⟩ := tj
        simp only at hno hyes
        generalize (ts[j]).kind = k1 at *
        generalize (ts[j]).op = o1 at *
        generalize (ts[j]).name = n1 at *
        generalize (ts[j]).value = v1 at *
        generalize (ts[j]).args.length = l1 at *
        generalize (ts[j]).size = s1 at *
        have HY := Lib.hid hyes
        have HNo := Lib.hid hno
        clear hno hyes
        go_wp2_with fail
        refine (C.out _ (HA2.out _ ((Below.refl _ wr).alloc (Nat.le_refl _) _)) (HBw.out.below ((Below.refl _ wr).alloc (Nat.le_refl _) _))).mono ?_
        rintro e w2 ⟨rfl, hB2⟩
        unfold i2V
        have HE2 := Lib.hid (Ext.trans HE.out (Ext.trans ((Below.refl _ wr).alloc (Nat.le_refl _) _) hB2))
        have HB2 := Lib.hid hB2
        clear hB2
        by_cases hf : t2 = 0
        · subst hf
          have hY := HY.out rfl
          have hrow2 := HRow.out.ext (Ext.trans ((Below.refl _ wr).alloc (Nat.le_refl _) _) HB2.out)
          have hbase : w.heap.size + 1 ≤ w2.heap.size := by have := HE2.out.size; simp at this; omega
          have hlen10 : (mapE (Ex.ty bs) (ts.take j)).2.length ≤ 10000000000 := by rw [HML.out]; omega
          have HYl := Lib.hid hY
          generalize (mapE (Ex.ty bs) (ts.take j)).2 = lj at *
          clear hY
          go_wp2_with (at_builtin; refine wp_appI rfl _ _ (by rfl) (w.heap.size + 1) _ _ (by rfl) _ hrow2 t1 (by rfl) hlen10 hbase ?_; intro v' w3 hr3 hB3; have HB3 := Lib.hid hB3; have HR3 := Lib.hid hr3; clear hB3 hr3 hrow2)
          go_roundw
          case rel =>
            refine ⟨j + 1, by omega, by go_num, ?_, ?_, ?_, ?_⟩
            · rw [HYl.out]; exact HR3.out
            · rw [HYl.out]
            · rw [HYl.out]; simp [HML.out]
            · exact Below.trans HE2.out ((HB3.out).mono (by simp))
          case measure => simp [intOf]; omega
        · have hg1 : (t2 == 0) = false := by simpa using hf
          have hg2 : (t2 != 0) = true := by simpa using hf
          have HNE := Lib.hid hf
          have HZ := Lib.hid (show res = (0, t2) by rw [HT.out, HNo.out hf, if_pos hf])
          clear hf
          go_wp2
          go_ret2
          exact ⟨by rw [HZ.out]; rfl, Ext.trans ((Below.refl _ w).alloc (Nat.le_refl _) _) HE2.out⟩
      · have hk : ts.take j = ts := List.take_of_length_le (by omega)
        rw [hk] at HRow HM0 HML
        have hjl : j = ts.length := by omega
        have HRES := Lib.hid (show res = tyN bs k o nm (mapE (Ex.ty bs) ts).2 by rw [HT.out, if_neg (by simp [HM0.out])])
        generalize (mapE (Ex.ty bs) ts).2 = l at *
        obtain ⟨x, cx, rfl, hI, _, _⟩ := HRow.out.ints
        have HI := Lib.hid hI
        have HLL := Lib.hid (HML.out.trans hjl)
        clear hk hjl hI HRow IH HM HFE HS HL HT HM0 HML
        rcases pc_zero HPC.out with ⟨rfl, _⟩ | ⟨rfl, _⟩ | ⟨rfl, _, _, hm, ho⟩ | ⟨rfl, _, _, hm, ho1, ho2⟩
        · have HZ := Lib.hid (show res = (1, 0) by rw [HRES.out]; rfl)
          go_wp2
          go_ret2
          exact ⟨by rw [HZ.out]; rfl, hW⟩
        · have F := Lib.hid (find_any bs pb cb nm wr (HBA.out.below hW))
          unfold Gives fdV at F
          have HZ := Lib.hid (show res = if fdIs bs nm then ((fdB bs nm).type, 0) else (0, 7) by rw [HRES.out]; rfl)
          have hv2 : (fdB bs nm).val = .agg #[sV (fdB bs nm).name, .int .i64 (fdB bs nm).type, .int .i64 (fdB bs nm).value] := rfl
          rw [hv2] at F
          generalize (fdB bs nm).name = fn at *
          generalize (fdB bs nm).type = ft at *
          generalize (fdB bs nm).value = fv at *
          clear hv2
          cases hb : fdIs bs nm with
          | true =>
            rw [hb] at F HZ
            go_wp2_with fail
            refine F.out.mono ?_
            rintro e w4 ⟨rfl, hB4⟩
            go_wp2
            go_ret2
            exact ⟨by rw [HZ.out]; rfl, Ext.trans hW (Ext.trans hB4 ((Below.refl _ w4).alloc (Nat.le_refl _) _))⟩
          | false =>
            rw [hb] at F HZ
            go_wp2_with fail
            refine F.out.mono ?_
            rintro e w4 ⟨rfl, hB4⟩
            go_wp2
            go_ret2
            exact ⟨by rw [HZ.out]; rfl, Ext.trans hW (Ext.trans hB4 ((Below.refl _ w4).alloc (Nat.le_refl _) _))⟩
        · have hll : l.length = 1 := HLL.out.trans hm
          obtain ⟨t0, rfl⟩ : ∃ t0, l = [t0] := List.length_eq_one_iff.1 hll
          obtain ⟨xb, xo, rfl, hx0⟩ := HI.out 0 (by simp)
          simp only [List.getElem_cons_zero] at hx0
          have hx0' : wr.cell? ⟨xb, xo, none⟩ = some (.int .i64 t0) := hx0
          clear hx0 hll HI HLL hm
          rcases ho with rfl | rfl
          · by_cases ht : t0 = 1
            · subst ht
              have HZ := Lib.hid (show res = (1, 0) by rw [HRES.out]; rfl)
              go_wp2
              go_ret2
              exact ⟨by rw [HZ.out]; rfl, hW⟩
            · have hg1 : (t0 == 1) = false := by simpa using ht
              have hg2 : (t0 != 1) = true := by simpa using ht
              have HZ := Lib.hid (show res = (0, 15) by rw [HRES.out]; simp [tyN, ht])
              clear ht
              go_wp2
              go_ret2
              exact ⟨by rw [HZ.out]; rfl, hW⟩
          · by_cases ht : t0 = 2
            · subst ht
              have HZ := Lib.hid (show res = (2, 0) by rw [HRES.out]; rfl)
              go_wp2
              go_ret2
              exact ⟨by rw [HZ.out]; rfl, hW⟩
            · have hg1 : (t0 == 2) = false := by simpa using ht
              have hg2 : (t0 != 2) = true := by simpa using ht
              have HZ := Lib.hid (show res = (0, 15) by rw [HRES.out]; simp [tyN, ht])
              clear ht
              go_wp2
              go_ret2
              exact ⟨by rw [HZ.out]; rfl, hW⟩
        · have hll : l.length = 2 := HLL.out.trans hm
          obtain ⟨t0, t1, rfl⟩ : ∃ t0 t1, l = [t0, t1] := by
            match l, hll with
            | [t0, t1], _ => exact ⟨t0, t1, rfl⟩
          obtain ⟨xb, xo, rfl, hx0⟩ := HI.out 0 (by simp)
          obtain ⟨xb', xo', hxe, hx1⟩ := HI.out 1 (by simp)
          cases hxe
          have y0 : wr.cell? ⟨xb, xo, none⟩ = some (.int .i64 t0) := hx0
          have y1 : wr.cell? ⟨xb, xo + 1, none⟩ = some (.int .i64 t1) := hx1
          have hk : knownB o = true := by unfold knownB; simp; omega
          have HOA := Lib.hid (opOf_arg o hk)
          have hbx : wr.heap[w.heap.size]? = some (.cells #[.int .i64 4, .int .i64 o, sV nm, .int .i64 v, .slice p ts.length c] tEx (0, 0)) := (HE.out.below.block _ (by simp)).trans (alloc_here _ _)
          have HY0 := Lib.hid y0
          have HY1 := Lib.hid y1
          clear hx0 hx1 hll HI HLL hm ho1 ho2 b1 b2 b3 b4
          go_wp2
          have hltx := lt_of_block hbx
          refine wp_region_g (by kernel_rfl) (Grow wr.heap.size tOp (opF (o))) (Grow.drawn _ _ _) Grow.trans (op25 (w.heap.size) wr.heap.size (o)) op25D (op25_st (w.heap.size) _ (o)) (by kernel_rfl) (by kernel_rfl) (by kernel_rfl) 90 rfl (by kernel_rfl) ?_ ?_
          · intro i op ho a' W hA
            have hb : W.heap[w.heap.size]? = some (.cells #[.int .i64 4, .int .i64 o, sV nm, .int .i64 v, .slice p ts.length c] tEx (0, 0)) := (hA.rel.low hltx hltx).trans hbx
            have c1 : W.cell? ⟨w.heap.size, 1, none⟩ = some (.int .i64 (o)) := cell_of hb rfl
            match i, ho with
            | 0, ho =>
              obtain rfl := Option.some.inj ho
              refine GoesG.call 61 #[] rfl ?_ ((operators_any W).mono ?_)
              · simp [execOp, resolve, invoke, Deferred.ofValue]
                rfl
              · rintro e W1 ⟨b, rfl, hO, hE⟩
                exact ⟨_, rfl, Grow.of_ext hE, fun s h1 h2 => ⟨b, h1 rfl, hO⟩⟩
            | 1, ho =>
              obtain rfl := Option.some.inj ho
              have e1 : a'.eval (.tmp 2) = .pointer (some ⟨w.heap.size, 0, none⟩) := hA.keep 2 (by kernel_rfl)
              refine GoesG.value (.pointer (some ⟨w.heap.size, 1, none⟩)) rfl ?_ (Grow.refl _ _ _ _) (fun s h1 h2 => h1 rfl)
              simp only [execOp, e1]
              simp [go_sem]
            | 2, ho =>
              obtain rfl := Option.some.inj ho
              have e1 : a'.eval (.tmp 65) = .pointer (some ⟨w.heap.size, 1, none⟩) := (sv_dst (l := _) rfl).symm.trans (hA.new 1 (by decide) (by kernel_rfl))
              refine GoesG.value (.int .i64 (o)) rfl ?_ (Grow.refl _ _ _ _) (fun s h1 h2 => h1 rfl)
              simp only [execOp, e1]
              simp [go_sem, c1]
            | 3, ho =>
              obtain rfl := Option.some.inj ho
              obtain ⟨b, e0, hO⟩ := hA.new 0 (by decide) (by kernel_rfl)
              have e1 : a'.eval (.tmp 64) = .map (some b) := (sv_dst (l := _) rfl).symm.trans e0
              have e2 : a'.eval (.tmp 66) = .int .i64 (o) := (sv_dst (l := _) rfl).symm.trans (hA.new 2 (by decide) (by kernel_rfl))
              obtain ⟨fv, hf, hr⟩ := ops_yes hO (o) hk
              have hrun := hr false
              refine GoesG.value ((opOf (o)).val fv) rfl ?_ (Grow.refl _ _ _ _) (fun s h1 h2 => ⟨fv, h1 rfl, fnOk_one hf⟩)
              simp only [execOp, e1, e2, Sem.run_bind, hrun, Result.andThen_ok, Sem.run_pure]
              rfl
            | 4, ho =>
              obtain rfl := Option.some.inj ho
              refine GoesG.value (.pointer (some ⟨W.heap.size, 0, none⟩)) (W' := W.alloc (.cells #[sV [], .int .i64 0, .int .i64 0, .int .i64 0, .nilFunc] tOp)) rfl ?_ (Grow.of_ext ((Below.refl _ W).alloc (Nat.le_refl _) _)) (fun s h1 h2 => ⟨_, _, h1 rfl, hA.rel.size, alloc_here _ _, rfl⟩)
              simp only [execOp]
              simp [go_sem]
              rfl
            | 5, ho =>
              obtain rfl := Option.some.inj ho
              obtain ⟨g, cc, e0, hB2, hg, hcc⟩ := hA.new 4 (by decide) (by kernel_rfl)
              obtain ⟨fv, e5, hone⟩ := hA.new 3 (by decide) (by kernel_rfl)
              have e1 : a'.eval (.tmp 14) = .pointer (some ⟨g, 0, none⟩) := (sv_dst (l := _) rfl).symm.trans e0
              have e2 : a'.eval (.tmp 67) = .agg #[sV (opOf (o)).sign, .int .i64 (opOf (o)).prec, .int .i64 (opOf (o)).arg, .int .i64 (opOf (o)).res, fv] := (sv_dst (l := _) rfl).symm.trans e5
              exact GoesG.store rfl tOp (.tmp 14) (.tmp 67) rfl g _ e1 e2 tOp cc hg (by kernel_rfl) hcc (by simp [Value.oneCell']; exact hone) rfl (Grow.row hg hB2 hcc.symm ⟨fv, rfl⟩)
                (fun s h2 => ⟨g, _, (h2 4 (by decide) (by kernel_rfl)).trans e0, hB2, setRow_heap _ _ _ _ _ _ hg, fv, rfl⟩)
            | i + 6, ho => cases ho
          · intro vs W3 hvs hG hΦ
            obtain ⟨u0, u1, u2, u3, u4, u5, rfl⟩ := six vs hvs
            obtain ⟨g2, cc, hu4, hBg, hg2, fv, hcc⟩ : ∃ g cc, u4 = .pointer (some ⟨g, 0, none⟩) ∧ wr.heap.size ≤ g ∧ W3.heap[g]? = some (.cells cc tOp (0, 0)) ∧ opF (o) cc := hΦ 5 (by decide)
            subst hcc hu4
            have hW3 : Ext wr W3 := hG.ext
            clear hΦ hG hvs
            simp only [putAll, Act.put, List.setIfInBounds_toArray, List.set_cons_succ, List.set_cons_zero]
            have y0 : W3.cell? ⟨xb, xo, none⟩ = some (.int .i64 t0) := (hW3.below.cell (p := ⟨xb, xo, none⟩) (Ex.cell_lt' HY0.out)).trans HY0.out
            have y1 : W3.cell? ⟨xb, xo + 1, none⟩ = some (.int .i64 t1) := (hW3.below.cell (p := ⟨xb, xo + 1, none⟩) (Ex.cell_lt' HY1.out)).trans HY1.out
            have HWW := Lib.hid (Ext.trans hW hW3)
            have z2 : W3.cell? ⟨g2, 2, none⟩ = some (.int .i64 (opOf o).arg) := cell_of hg2 rfl
            have z3 : W3.cell? ⟨g2, 3, none⟩ = some (.int .i64 (opOf o).res) := cell_of hg2 rfl
            have HRES2 := Lib.hid (show res = if t0 = t1 ∧ ((opOf o).arg = 0 ∨ t0 = (opOf o).arg) then ((opOf o).res, 0) else (0, 15) by rw [HRES.out]; rfl)
            clear HRES hg2 hbx hW3 HY0 HY1 hltx hW
            generalize (opOf o).arg = oa at *
            generalize (opOf o).res = orr at *
            by_cases h1 : t0 = t1
            · subst h1
              by_cases h2 : oa = 0
              · subst h2
                have HZ := Lib.hid (show res = (orr, 0) by rw [HRES2.out]; simp)
                go_wp2
                go_quiet (fail)
                go_wp2
                go_ret2
                exact ⟨by rw [HZ.out]; rfl, HWW.out.drewN'⟩
              · have hg1 : (oa == 0) = false := by simpa using h2
                have hg2 : (oa != 0) = true := by simpa using h2
                by_cases h3 : t0 = oa
                · subst h3
                  have HZ := Lib.hid (show res = (orr, 0) by rw [HRES2.out]; simp)
                  clear h2
                  go_wp2
                  go_quiet (fail)
                  go_wp2
                  go_ret2
                  exact ⟨by rw [HZ.out]; rfl, HWW.out.drewN'⟩
                · have hg3 : (t0 == oa) = false := by simpa using h3
                  have hg4 : (t0 != oa) = true := by simpa using h3
                  have HZ := Lib.hid (show res = (0, 15) by rw [HRES2.out]; simp [h2, h3])
                  clear h2 h3
                  go_wp2
                  go_quiet (fail)
                  go_wp2
                  go_ret2
                  exact ⟨by rw [HZ.out]; rfl, HWW.out.drewN'⟩
            · have hg1 : (t0 == t1) = false := by simpa using h1
              have hg2 : (t0 != t1) = true := by simpa using h1
              have HZ := Lib.hid (show res = (0, 15) by rw [HRES2.out]; simp [h1])
              clear h1
              go_wp2
              go_quiet (fail)
              go_wp2
              go_ret2
              exact ⟨by rw [HZ.out]; rfl, HWW.out.drewN'⟩

end Go.Proofs.YtgkalcboklhdgaaDoor

namespace Go.Proofs.YtgkalcboklhdgaaDoor
open Go.RowKit
set_option linter.unusedVariables false
set_option linter.unusedSimpArgs false
open Ex

set_option maxRecDepth 100000 in
set_option maxHeartbeats 8000000 in
theorem refTyped_any (bs : List Bn) (pb : Option Addr) (cb : Nat) : ∀ (n : Nat) (e : Ex), e.size ≤ n → ∀ (p : Option Addr) (c : Nat) (w : World), Ex.At w p e → BAt w pb bs → e.fe = 0 →
    Gives Tryd.prog 39 #[e.val p c, .slice pb bs.length cb] w (i2V (e.ty bs)) := by
  intro n
  induction n with
  | zero => intro e he; have := e.size_pos; omega
  | succ n ih =>
    intro e he p c w hA hBA hfe
    obtain ⟨k, o, nm, v, ts⟩ := e
    have HA := Lib.hid hA
    have hl : ts.length ≤ 2199023255488 := hA.fit.2.2.2.2
    have HS := Lib.hid (fun j (h : j < ts.length) => size_get ts j h)
    have hN : (Ex.mk k o nm v ts).size = 1 + sizes ts := rfl
    have hv : (Ex.mk k o nm v ts).val p c = .agg #[.int .i64 k, .int .i64 o, sV nm, .int .i64 v, .slice p ts.length c] := rfl
    rw [hv]
    have IH := Lib.hid ih
    clear hA hv ih
    have HBA := Lib.hid hBA
    obtain ⟨hpc, hfes⟩ := fe_mk hfe
    have HFE := Lib.hid (fun j hj => fes_get hfes j hj)
    have HM := Lib.hid (fun j h => mapE_take (Ex.ty bs) ts j h)
    have HL := Lib.hid (mapE_len (Ex.ty bs) ts)
    have HTY : (Ex.mk k o nm v ts).ty bs = if (mapE (Ex.ty bs) ts).1 ≠ 0 then (0, (mapE (Ex.ty bs) ts).1) else tyN bs k o nm (mapE (Ex.ty bs) ts).2 := by rw [← tys_map]; rfl
    have HPC := Lib.hid hpc
    have HT := Lib.hid HTY
    have hl100 : ts.length ≤ 2 := by rcases pc_zero hpc with h | h | h | h <;> omega
    generalize (Ex.mk k o nm v ts).ty bs = res at *
    clear hBA hfe hfes hpc HTY
    have hE0 : Ext w (w.alloc (.cells #[.int .i64 k, .int .i64 o, sV nm, .int .i64 v, .slice p ts.length c] 24)) := (Below.refl _ w).alloc (Nat.le_refl _) _
    have HE0 := Lib.hid hE0
    clear hE0
    unfold Gives
    go_enter Tryd.func39, Tryd.ntmps39
    go_wp2
    go_loopw [6, 7] (fun u i wr => ∃ (j : Nat), j ≤ ts.length ∧ i = .int .i64 (j : Int) ∧ RowI (w.heap.size + 1) u (mapE (Ex.ty bs) (ts.take j)).2 wr ∧ (mapE (Ex.ty bs) (ts.take j)).1 = 0 ∧ (mapE (Ex.ty bs) (ts.take j)).2.length = j ∧ Ext (w.alloc (.cells #[.int .i64 k, .int .i64 o, sV nm, .int .i64 v, .slice p ts.length c] 24)) wr) (fun _ i _ => ts.length - (intOf i).toNat)
    case atStart => exact ⟨0, Nat.zero_le _, rfl, by have h := RowI.empty (w.alloc (.cells #[.int .i64 k, .int .i64 o, sV nm, .int .i64 v, .slice p ts.length c] 24)) (w.heap.size + 1) (by simp); rw [World.size_alloc] at h; exact h, rfl, rfl, (Below.refl _ _).alloc (Nat.le_refl _) _⟩
    case round =>
      obtain ⟨j, hj, rfl, hrow, hm0, hmlen, hE⟩ := hrel
      obtain ⟨b0, b1, b2, b3, b4, hW⟩ := hE.box
      have HE := Lib.hid hE
      clear hE
      have HRow := Lib.hid hrow
      have HM0 := Lib.hid hm0
      have HML := Lib.hid hmlen
      clear hrow hm0 hmlen
      by_cases hlt : j < ts.length
      · obtain ⟨b, off, q, cc, rfl, hcs, hA0⟩ := HA.out.get j hlt
        obtain ⟨c0, c1, c2, c3, c4⟩ := hcs.below hW
        have hA := hA0.below hW
        clear hcs
        have hs := HS.out j hlt
        have hsz : (ts[j]).size ≤ n := by omega
        have C := Lib.hid (fun W (hA : Ex.At W q ts[j]) (hB : BAt W pb bs) => IH.out (ts[j]) hsz q cc W hA hB (HFE.out j hlt))
        unfold Gives at C
        obtain ⟨hno, hyes⟩ := HM.out j hlt HM0.out
        have hAbox : ∀ W, Ext wr W → Ex.At W q ts[j] := fun W h => hA.below h
        have HA2 := Lib.hid hAbox
        have HBw := Lib.hid (HBA.out.below hW)
        clear hA hAbox
        change Hid (∀ W, _ → _ → Calls _ _ #[.agg #[.int .i64 (ts[j]).kind, .int .i64 (ts[j]).op, sV (ts[j]).name, .int .i64 (ts[j]).value, .slice q (ts[j]).args.length cc], _] _ _) at C
        generalize (ts[j]).ty bs = tj at *
        obtain ⟨t1, t2⟩ := tj
        simp only at hno hyes
        generalize (ts[j]).kind = k1 at *
        generalize (ts[j]).op = o1 at *
        generalize (ts[j]).name = n1 at *
        generalize (ts[j]).value = v1 at *
        generalize (ts[j]).args.length = l1 at *
        generalize (ts[j]).size = s1 at *
        have HY := Lib.hid hyes
        have HNo := Lib.hid hno
        clear hno hyes
        go_wp2_with fail
        refine (C.out _ (HA2.out _ (Below.refl _ wr)) HBw.out).mono ?_
        rintro e w2 ⟨rfl, hB2⟩
        unfold i2V
        have HE2 := Lib.hid (Ext.trans HE.out hB2)
        have HB2 := Lib.hid hB2
        clear hB2
        by_cases hf : t2 = 0
        · subst hf
          have hY := HY.out rfl
          have hrow2 := HRow.out.ext HB2.out
          have hbase : w.heap.size + 1 ≤ w2.heap.size := by have := HE2.out.size; simp at this; omega
          have hlen10 : (mapE (Ex.ty bs) (ts.take j)).2.length ≤ 10000000000 := by rw [HML.out]; omega
          have HYl := Lib.hid hY
          generalize (mapE (Ex.ty bs) (ts.take j)).2 = lj at *
          clear hY
          go_wp2_with (at_builtin; refine wp_appI rfl _ _ (by rfl) (w.heap.size + 1) _ _ (by rfl) _ hrow2 t1 (by rfl) hlen10 hbase ?_; intro v' w3 hr3 hB3; have HB3 := Lib.hid hB3; have HR3 := Lib.hid hr3; clear hB3 hr3 hrow2)
          go_roundw
          case rel =>
            refine ⟨j + 1, by omega, by go_num, ?_, ?_, ?_, ?_⟩
            · rw [HYl.out]; exact HR3.out
            · rw [HYl.out]
            · rw [HYl.out]; simp [HML.out]
            · exact Below.trans HE2.out ((HB3.out).mono (by simp))
          case measure => simp [intOf]; omega
        · have hg1 : (t2 == 0) = false := by simpa using hf
          have hg2 : (t2 != 0) = true := by simpa using hf
          have HNE := Lib.hid hf
          have HZ := Lib.hid (show res = (0, t2) by rw [HT.out, HNo.out hf, if_pos hf])
          clear hf
          go_wp2
          go_ret2
          exact ⟨by rw [HZ.out]; rfl, Ext.trans ((Below.refl _ w).alloc (Nat.le_refl _) _) HE2.out⟩
      · have hk : ts.take j = ts := List.take_of_length_le (by omega)
        rw [hk] at HRow HM0 HML
        have hjl : j = ts.length := by omega
        have HRES := Lib.hid (show res = tyN bs k o nm (mapE (Ex.ty bs) ts).2 by rw [HT.out, if_neg (by simp [HM0.out])])
        generalize (mapE (Ex.ty bs) ts).2 = l at *
        obtain ⟨x, cx, rfl, hI, _, _⟩ := HRow.out.ints
        have HI := Lib.hid hI
        have HLL := Lib.hid (HML.out.trans hjl)
        clear hk hjl hI HRow IH HM HFE HS HL HT HM0 HML
        rcases pc_zero HPC.out with ⟨rfl, _⟩ | ⟨rfl, _⟩ | ⟨rfl, _, _, hm, ho⟩ | ⟨rfl, _, _, hm, ho1, ho2⟩
        · have HZ := Lib.hid (show res = (1, 0) by rw [HRES.out]; rfl)
          go_wp2
          go_ret2
          exact ⟨by rw [HZ.out]; rfl, hW⟩
        · have F := Lib.hid (refFind_any bs pb cb nm wr (HBA.out.below hW))
          unfold Gives fdV at F
          have HZ := Lib.hid (show res = if fdIs bs nm then ((fdB bs nm).type, 0) else (0, 7) by rw [HRES.out]; rfl)
          have hv2 : (fdB bs nm).val = .agg #[sV (fdB bs nm).name, .int .i64 (fdB bs nm).type, .int .i64 (fdB bs nm).value] := rfl
          rw [hv2] at F
          generalize (fdB bs nm).name = fn at *
          generalize (fdB bs nm).type = ft at *
          generalize (fdB bs nm).value = fv at *
          clear hv2
          cases hb : fdIs bs nm with
          | true =>
            rw [hb] at F HZ
            go_wp2_with fail
            refine F.out.mono ?_
            rintro e w4 ⟨rfl, hB4⟩
            go_wp2
            go_ret2
            exact ⟨by rw [HZ.out]; rfl, Ext.trans hW (Ext.trans hB4 ((Below.refl _ w4).alloc (Nat.le_refl _) _))⟩
          | false =>
            rw [hb] at F HZ
            go_wp2_with fail
            refine F.out.mono ?_
            rintro e w4 ⟨rfl, hB4⟩
            go_wp2
            go_ret2
            exact ⟨by rw [HZ.out]; rfl, Ext.trans hW (Ext.trans hB4 ((Below.refl _ w4).alloc (Nat.le_refl _) _))⟩
        · have hll : l.length = 1 := HLL.out.trans hm
          obtain ⟨t0, rfl⟩ : ∃ t0, l = [t0] := List.length_eq_one_iff.1 hll
          obtain ⟨xb, xo, rfl, hx0⟩ := HI.out 0 (by simp)
          simp only [List.getElem_cons_zero] at hx0
          have hx0' : wr.cell? ⟨xb, xo, none⟩ = some (.int .i64 t0) := hx0
          clear hx0 hll HI HLL hm
          rcases ho with rfl | rfl
          · by_cases ht : t0 = 1
            · subst ht
              have HZ := Lib.hid (show res = (1, 0) by rw [HRES.out]; rfl)
              go_wp2
              go_loop [14] (fun i => ∃ j2 : Nat, j2 ≤ 1 ∧ i = .int .i64 (j2 : Int)) (fun i => 3 - (intOf i).toNat)
              case atStart => exact ⟨0, Nat.zero_le _, rfl⟩
              case round =>
                obtain ⟨j2, hj2, rfl⟩ := hrel
                rcases (show j2 = 0 ∨ j2 = 1 by omega) with rfl | rfl
                · go_wp2
                  go_round
                  case rel => exact ⟨1, by omega, rfl⟩
                  case measure => simp [intOf]
                · go_wp2
                  go_ret2
                  exact ⟨by rw [HZ.out]; rfl, hW⟩
            · have q1 : (t0 == 1) = false := by simpa using ht
              have q2 : (t0 != 1) = true := by simpa using ht
              have HZ := Lib.hid (show res = (0, 15) by rw [HRES.out]; simp [tyN, ht])
              clear ht
              go_wp2
              go_loop [14] (fun i => ∃ j2 : Nat, j2 ≤ 0 ∧ i = .int .i64 (j2 : Int)) (fun i => 3 - (intOf i).toNat)
              case atStart => exact ⟨0, Nat.zero_le _, rfl⟩
              case round =>
                obtain ⟨j2, hj2, rfl⟩ := hrel
                obtain rfl : j2 = 0 := by omega
                · go_wp2
                  go_ret2
                  exact ⟨by rw [HZ.out]; rfl, hW⟩
          · by_cases ht : t0 = 2
            · subst ht
              have HZ := Lib.hid (show res = (2, 0) by rw [HRES.out]; rfl)
              go_wp2
              go_loop [14] (fun i => ∃ j2 : Nat, j2 ≤ 1 ∧ i = .int .i64 (j2 : Int)) (fun i => 3 - (intOf i).toNat)
              case atStart => exact ⟨0, Nat.zero_le _, rfl⟩
              case round =>
                obtain ⟨j2, hj2, rfl⟩ := hrel
                rcases (show j2 = 0 ∨ j2 = 1 by omega) with rfl | rfl
                · go_wp2
                  go_round
                  case rel => exact ⟨1, by omega, rfl⟩
                  case measure => simp [intOf]
                · go_wp2
                  go_ret2
                  exact ⟨by rw [HZ.out]; rfl, hW⟩
            · have q1 : (t0 == 2) = false := by simpa using ht
              have q2 : (t0 != 2) = true := by simpa using ht
              have HZ := Lib.hid (show res = (0, 15) by rw [HRES.out]; simp [tyN, ht])
              clear ht
              go_wp2
              go_loop [14] (fun i => ∃ j2 : Nat, j2 ≤ 0 ∧ i = .int .i64 (j2 : Int)) (fun i => 3 - (intOf i).toNat)
              case atStart => exact ⟨0, Nat.zero_le _, rfl⟩
              case round =>
                obtain ⟨j2, hj2, rfl⟩ := hrel
                obtain rfl : j2 = 0 := by omega
                · go_wp2
                  go_ret2
                  exact ⟨by rw [HZ.out]; rfl, hW⟩
        · have hll : l.length = 2 := HLL.out.trans hm
          obtain ⟨t0, t1, rfl⟩ : ∃ t0 t1, l = [t0, t1] := by
            match l, hll with
            | [t0, t1], _ => exact ⟨t0, t1, rfl⟩
          obtain ⟨xb, xo, rfl, hx0⟩ := HI.out 0 (by simp)
          obtain ⟨xb', xo', hxe, hx1⟩ := HI.out 1 (by simp)
          cases hxe
          have y0 : wr.cell? ⟨xb, xo, none⟩ = some (.int .i64 t0) := hx0
          have y1 : wr.cell? ⟨xb, xo + 1, none⟩ = some (.int .i64 t1) := hx1
          have hk2 : o = 3 ∨ o = 4 ∨ o = 5 ∨ o = 6 ∨ o = 7 ∨ o = 8 ∨ o = 9 ∨ o = 10 ∨ o = 11 ∨ o = 12 ∨ o = 13 ∨ o = 14 ∨ o = 15 := by omega
          clear hx0 hx1 hll HI HLL hm ho1 ho2
          rcases hk2 with rfl | rfl | rfl | rfl | rfl | rfl | rfl | rfl | rfl | rfl | rfl | rfl | rfl
          · by_cases h1 : t0 = 1
            · by_cases h2 : t1 = 1
              · subst h1 h2
                have HZ := Lib.hid (show res = (1, 0) by rw [HRES.out]; simp [tyN, opOf, opL])
                go_wp2
                go_loop [14] (fun i => ∃ j2 : Nat, j2 ≤ 2 ∧ i = .int .i64 (j2 : Int)) (fun i => 3 - (intOf i).toNat)
                case atStart => exact ⟨0, Nat.zero_le _, rfl⟩
                case round =>
                  obtain ⟨j2, hj2, rfl⟩ := hrel
                  rcases (show j2 = 0 ∨ j2 = 1 ∨ j2 = 2 by omega) with rfl | rfl | rfl
                  · go_wp2
                    go_round
                    case rel => exact ⟨1, by omega, rfl⟩
                    case measure => simp [intOf]
                  · go_wp2
                    go_round
                    case rel => exact ⟨2, by omega, rfl⟩
                    case measure => simp [intOf]
                  · go_wp2
                    go_ret2
                    exact ⟨by rw [HZ.out]; rfl, hW⟩
              · subst h1
                have q1 : (t1 == 1) = false := by simpa using h2
                have q2 : (t1 != 1) = true := by simpa using h2
                have HZ := Lib.hid (show res = (0, 15) by rw [HRES.out]; simp [tyN, opOf, opL]; omega)
                clear h2
                go_wp2
                go_loop [14] (fun i => ∃ j2 : Nat, j2 ≤ 1 ∧ i = .int .i64 (j2 : Int)) (fun i => 3 - (intOf i).toNat)
                case atStart => exact ⟨0, Nat.zero_le _, rfl⟩
                case round =>
                  obtain ⟨j2, hj2, rfl⟩ := hrel
                  rcases (show j2 = 0 ∨ j2 = 1 by omega) with rfl | rfl
                  · go_wp2
                    go_round
                    case rel => exact ⟨1, by omega, rfl⟩
                    case measure => simp [intOf]
                  · go_wp2
                    go_ret2
                    exact ⟨by rw [HZ.out]; rfl, hW⟩
            · have q1 : (t0 == 1) = false := by simpa using h1
              have q2 : (t0 != 1) = true := by simpa using h1
              have HZ := Lib.hid (show res = (0, 15) by rw [HRES.out]; simp [tyN, opOf, opL, h1])
              clear h1
              go_wp2
              go_loop [14] (fun i => ∃ j2 : Nat, j2 ≤ 0 ∧ i = .int .i64 (j2 : Int)) (fun i => 3 - (intOf i).toNat)
              case atStart => exact ⟨0, Nat.zero_le _, rfl⟩
              case round =>
                obtain ⟨j2, hj2, rfl⟩ := hrel
                obtain rfl : j2 = 0 := by omega
                · go_wp2
                  go_ret2
                  exact ⟨by rw [HZ.out]; rfl, hW⟩
          · by_cases h1 : t0 = 1
            · by_cases h2 : t1 = 1
              · subst h1 h2
                have HZ := Lib.hid (show res = (1, 0) by rw [HRES.out]; simp [tyN, opOf, opL])
                go_wp2
                go_loop [14] (fun i => ∃ j2 : Nat, j2 ≤ 2 ∧ i = .int .i64 (j2 : Int)) (fun i => 3 - (intOf i).toNat)
                case atStart => exact ⟨0, Nat.zero_le _, rfl⟩
                case round =>
                  obtain ⟨j2, hj2, rfl⟩ := hrel
                  rcases (show j2 = 0 ∨ j2 = 1 ∨ j2 = 2 by omega) with rfl | rfl | rfl
                  · go_wp2
                    go_round
                    case rel => exact ⟨1, by omega, rfl⟩
                    case measure => simp [intOf]
                  · go_wp2
                    go_round
                    case rel => exact ⟨2, by omega, rfl⟩
                    case measure => simp [intOf]
                  · go_wp2
                    go_ret2
                    exact ⟨by rw [HZ.out]; rfl, hW⟩
              · subst h1
                have q1 : (t1 == 1) = false := by simpa using h2
                have q2 : (t1 != 1) = true := by simpa using h2
                have HZ := Lib.hid (show res = (0, 15) by rw [HRES.out]; simp [tyN, opOf, opL]; omega)
                clear h2
                go_wp2
                go_loop [14] (fun i => ∃ j2 : Nat, j2 ≤ 1 ∧ i = .int .i64 (j2 : Int)) (fun i => 3 - (intOf i).toNat)
                case atStart => exact ⟨0, Nat.zero_le _, rfl⟩
                case round =>
                  obtain ⟨j2, hj2, rfl⟩ := hrel
                  rcases (show j2 = 0 ∨ j2 = 1 by omega) with rfl | rfl
                  · go_wp2
                    go_round
                    case rel => exact ⟨1, by omega, rfl⟩
                    case measure => simp [intOf]
                  · go_wp2
                    go_ret2
                    exact ⟨by rw [HZ.out]; rfl, hW⟩
            · have q1 : (t0 == 1) = false := by simpa using h1
              have q2 : (t0 != 1) = true := by simpa using h1
              have HZ := Lib.hid (show res = (0, 15) by rw [HRES.out]; simp [tyN, opOf, opL, h1])
              clear h1
              go_wp2
              go_loop [14] (fun i => ∃ j2 : Nat, j2 ≤ 0 ∧ i = .int .i64 (j2 : Int)) (fun i => 3 - (intOf i).toNat)
              case atStart => exact ⟨0, Nat.zero_le _, rfl⟩
              case round =>
                obtain ⟨j2, hj2, rfl⟩ := hrel
                obtain rfl : j2 = 0 := by omega
                · go_wp2
                  go_ret2
                  exact ⟨by rw [HZ.out]; rfl, hW⟩
          · by_cases h1 : t0 = 1
            · by_cases h2 : t1 = 1
              · subst h1 h2
                have HZ := Lib.hid (show res = (1, 0) by rw [HRES.out]; simp [tyN, opOf, opL])
                go_wp2
                go_loop [14] (fun i => ∃ j2 : Nat, j2 ≤ 2 ∧ i = .int .i64 (j2 : Int)) (fun i => 3 - (intOf i).toNat)
                case atStart => exact ⟨0, Nat.zero_le _, rfl⟩
                case round =>
                  obtain ⟨j2, hj2, rfl⟩ := hrel
                  rcases (show j2 = 0 ∨ j2 = 1 ∨ j2 = 2 by omega) with rfl | rfl | rfl
                  · go_wp2
                    go_round
                    case rel => exact ⟨1, by omega, rfl⟩
                    case measure => simp [intOf]
                  · go_wp2
                    go_round
                    case rel => exact ⟨2, by omega, rfl⟩
                    case measure => simp [intOf]
                  · go_wp2
                    go_ret2
                    exact ⟨by rw [HZ.out]; rfl, hW⟩
              · subst h1
                have q1 : (t1 == 1) = false := by simpa using h2
                have q2 : (t1 != 1) = true := by simpa using h2
                have HZ := Lib.hid (show res = (0, 15) by rw [HRES.out]; simp [tyN, opOf, opL]; omega)
                clear h2
                go_wp2
                go_loop [14] (fun i => ∃ j2 : Nat, j2 ≤ 1 ∧ i = .int .i64 (j2 : Int)) (fun i => 3 - (intOf i).toNat)
                case atStart => exact ⟨0, Nat.zero_le _, rfl⟩
                case round =>
                  obtain ⟨j2, hj2, rfl⟩ := hrel
                  rcases (show j2 = 0 ∨ j2 = 1 by omega) with rfl | rfl
                  · go_wp2
                    go_round
                    case rel => exact ⟨1, by omega, rfl⟩
                    case measure => simp [intOf]
                  · go_wp2
                    go_ret2
                    exact ⟨by rw [HZ.out]; rfl, hW⟩
            · have q1 : (t0 == 1) = false := by simpa using h1
              have q2 : (t0 != 1) = true := by simpa using h1
              have HZ := Lib.hid (show res = (0, 15) by rw [HRES.out]; simp [tyN, opOf, opL, h1])
              clear h1
              go_wp2
              go_loop [14] (fun i => ∃ j2 : Nat, j2 ≤ 0 ∧ i = .int .i64 (j2 : Int)) (fun i => 3 - (intOf i).toNat)
              case atStart => exact ⟨0, Nat.zero_le _, rfl⟩
              case round =>
                obtain ⟨j2, hj2, rfl⟩ := hrel
                obtain rfl : j2 = 0 := by omega
                · go_wp2
                  go_ret2
                  exact ⟨by rw [HZ.out]; rfl, hW⟩
          · by_cases h1 : t0 = 1
            · by_cases h2 : t1 = 1
              · subst h1 h2
                have HZ := Lib.hid (show res = (1, 0) by rw [HRES.out]; simp [tyN, opOf, opL])
                go_wp2
                go_loop [14] (fun i => ∃ j2 : Nat, j2 ≤ 2 ∧ i = .int .i64 (j2 : Int)) (fun i => 3 - (intOf i).toNat)
                case atStart => exact ⟨0, Nat.zero_le _, rfl⟩
                case round =>
                  obtain ⟨j2, hj2, rfl⟩ := hrel
                  rcases (show j2 = 0 ∨ j2 = 1 ∨ j2 = 2 by omega) with rfl | rfl | rfl
                  · go_wp2
                    go_round
                    case rel => exact ⟨1, by omega, rfl⟩
                    case measure => simp [intOf]
                  · go_wp2
                    go_round
                    case rel => exact ⟨2, by omega, rfl⟩
                    case measure => simp [intOf]
                  · go_wp2
                    go_ret2
                    exact ⟨by rw [HZ.out]; rfl, hW⟩
              · subst h1
                have q1 : (t1 == 1) = false := by simpa using h2
                have q2 : (t1 != 1) = true := by simpa using h2
                have HZ := Lib.hid (show res = (0, 15) by rw [HRES.out]; simp [tyN, opOf, opL]; omega)
                clear h2
                go_wp2
                go_loop [14] (fun i => ∃ j2 : Nat, j2 ≤ 1 ∧ i = .int .i64 (j2 : Int)) (fun i => 3 - (intOf i).toNat)
                case atStart => exact ⟨0, Nat.zero_le _, rfl⟩
                case round =>
                  obtain ⟨j2, hj2, rfl⟩ := hrel
                  rcases (show j2 = 0 ∨ j2 = 1 by omega) with rfl | rfl
                  · go_wp2
                    go_round
                    case rel => exact ⟨1, by omega, rfl⟩
                    case measure => simp [intOf]
                  · go_wp2
                    go_ret2
                    exact ⟨by rw [HZ.out]; rfl, hW⟩
            · have q1 : (t0 == 1) = false := by simpa using h1
              have q2 : (t0 != 1) = true := by simpa using h1
              have HZ := Lib.hid (show res = (0, 15) by rw [HRES.out]; simp [tyN, opOf, opL, h1])
              clear h1
              go_wp2
              go_loop [14] (fun i => ∃ j2 : Nat, j2 ≤ 0 ∧ i = .int .i64 (j2 : Int)) (fun i => 3 - (intOf i).toNat)
              case atStart => exact ⟨0, Nat.zero_le _, rfl⟩
              case round =>
                obtain ⟨j2, hj2, rfl⟩ := hrel
                obtain rfl : j2 = 0 := by omega
                · go_wp2
                  go_ret2
                  exact ⟨by rw [HZ.out]; rfl, hW⟩
          · by_cases h1 : t0 = 1
            · by_cases h2 : t1 = 1
              · subst h1 h2
                have HZ := Lib.hid (show res = (1, 0) by rw [HRES.out]; simp [tyN, opOf, opL])
                go_wp2
                go_loop [14] (fun i => ∃ j2 : Nat, j2 ≤ 2 ∧ i = .int .i64 (j2 : Int)) (fun i => 3 - (intOf i).toNat)
                case atStart => exact ⟨0, Nat.zero_le _, rfl⟩
                case round =>
                  obtain ⟨j2, hj2, rfl⟩ := hrel
                  rcases (show j2 = 0 ∨ j2 = 1 ∨ j2 = 2 by omega) with rfl | rfl | rfl
                  · go_wp2
                    go_round
                    case rel => exact ⟨1, by omega, rfl⟩
                    case measure => simp [intOf]
                  · go_wp2
                    go_round
                    case rel => exact ⟨2, by omega, rfl⟩
                    case measure => simp [intOf]
                  · go_wp2
                    go_ret2
                    exact ⟨by rw [HZ.out]; rfl, hW⟩
              · subst h1
                have q1 : (t1 == 1) = false := by simpa using h2
                have q2 : (t1 != 1) = true := by simpa using h2
                have HZ := Lib.hid (show res = (0, 15) by rw [HRES.out]; simp [tyN, opOf, opL]; omega)
                clear h2
                go_wp2
                go_loop [14] (fun i => ∃ j2 : Nat, j2 ≤ 1 ∧ i = .int .i64 (j2 : Int)) (fun i => 3 - (intOf i).toNat)
                case atStart => exact ⟨0, Nat.zero_le _, rfl⟩
                case round =>
                  obtain ⟨j2, hj2, rfl⟩ := hrel
                  rcases (show j2 = 0 ∨ j2 = 1 by omega) with rfl | rfl
                  · go_wp2
                    go_round
                    case rel => exact ⟨1, by omega, rfl⟩
                    case measure => simp [intOf]
                  · go_wp2
                    go_ret2
                    exact ⟨by rw [HZ.out]; rfl, hW⟩
            · have q1 : (t0 == 1) = false := by simpa using h1
              have q2 : (t0 != 1) = true := by simpa using h1
              have HZ := Lib.hid (show res = (0, 15) by rw [HRES.out]; simp [tyN, opOf, opL, h1])
              clear h1
              go_wp2
              go_loop [14] (fun i => ∃ j2 : Nat, j2 ≤ 0 ∧ i = .int .i64 (j2 : Int)) (fun i => 3 - (intOf i).toNat)
              case atStart => exact ⟨0, Nat.zero_le _, rfl⟩
              case round =>
                obtain ⟨j2, hj2, rfl⟩ := hrel
                obtain rfl : j2 = 0 := by omega
                · go_wp2
                  go_ret2
                  exact ⟨by rw [HZ.out]; rfl, hW⟩
          · by_cases h1 : t0 = t1
            · subst h1
              have HZ := Lib.hid (show res = (2, 0) by rw [HRES.out]; simp [tyN, opOf, opL])
              go_wp2
              go_loop [14] (fun i => ∃ j2 : Nat, j2 ≤ 2 ∧ i = .int .i64 (j2 : Int)) (fun i => 3 - (intOf i).toNat)
              case atStart => exact ⟨0, Nat.zero_le _, rfl⟩
              case round =>
                obtain ⟨j2, hj2, rfl⟩ := hrel
                rcases (show j2 = 0 ∨ j2 = 1 ∨ j2 = 2 by omega) with rfl | rfl | rfl
                · go_wp2
                  go_round
                  case rel => exact ⟨1, by omega, rfl⟩
                  case measure => simp [intOf]
                · go_wp2
                  go_round
                  case rel => exact ⟨2, by omega, rfl⟩
                  case measure => simp [intOf]
                · go_wp2
                  go_ret2
                  exact ⟨by rw [HZ.out]; rfl, hW⟩
            · have q1 : (t0 == t1) = false := by simpa using h1
              have q2 : (t0 != t1) = true := by simpa using h1
              have h1b : ¬ t1 = t0 := fun h => h1 h.symm
              have p1 : (t1 == t0) = false := by simpa using h1b
              have p2 : (t1 != t0) = true := by simpa using h1b
              have HZ := Lib.hid (show res = (0, 15) by rw [HRES.out]; simp [tyN, opOf, opL, h1])
              clear h1 h1b
              go_wp2
              go_loop [14] (fun i => ∃ j2 : Nat, j2 ≤ 1 ∧ i = .int .i64 (j2 : Int)) (fun i => 3 - (intOf i).toNat)
              case atStart => exact ⟨0, Nat.zero_le _, rfl⟩
              case round =>
                obtain ⟨j2, hj2, rfl⟩ := hrel
                rcases (show j2 = 0 ∨ j2 = 1 by omega) with rfl | rfl
                · go_wp2
                  go_round
                  case rel => exact ⟨1, by omega, rfl⟩
                  case measure => simp [intOf]
                · go_wp2
                  go_ret2
                  exact ⟨by rw [HZ.out]; rfl, hW⟩
          · by_cases h1 : t0 = t1
            · subst h1
              have HZ := Lib.hid (show res = (2, 0) by rw [HRES.out]; simp [tyN, opOf, opL])
              go_wp2
              go_loop [14] (fun i => ∃ j2 : Nat, j2 ≤ 2 ∧ i = .int .i64 (j2 : Int)) (fun i => 3 - (intOf i).toNat)
              case atStart => exact ⟨0, Nat.zero_le _, rfl⟩
              case round =>
                obtain ⟨j2, hj2, rfl⟩ := hrel
                rcases (show j2 = 0 ∨ j2 = 1 ∨ j2 = 2 by omega) with rfl | rfl | rfl
                · go_wp2
                  go_round
                  case rel => exact ⟨1, by omega, rfl⟩
                  case measure => simp [intOf]
                · go_wp2
                  go_round
                  case rel => exact ⟨2, by omega, rfl⟩
                  case measure => simp [intOf]
                · go_wp2
                  go_ret2
                  exact ⟨by rw [HZ.out]; rfl, hW⟩
            · have q1 : (t0 == t1) = false := by simpa using h1
              have q2 : (t0 != t1) = true := by simpa using h1
              have h1b : ¬ t1 = t0 := fun h => h1 h.symm
              have p1 : (t1 == t0) = false := by simpa using h1b
              have p2 : (t1 != t0) = true := by simpa using h1b
              have HZ := Lib.hid (show res = (0, 15) by rw [HRES.out]; simp [tyN, opOf, opL, h1])
              clear h1 h1b
              go_wp2
              go_loop [14] (fun i => ∃ j2 : Nat, j2 ≤ 1 ∧ i = .int .i64 (j2 : Int)) (fun i => 3 - (intOf i).toNat)
              case atStart => exact ⟨0, Nat.zero_le _, rfl⟩
              case round =>
                obtain ⟨j2, hj2, rfl⟩ := hrel
                rcases (show j2 = 0 ∨ j2 = 1 by omega) with rfl | rfl
                · go_wp2
                  go_round
                  case rel => exact ⟨1, by omega, rfl⟩
                  case measure => simp [intOf]
                · go_wp2
                  go_ret2
                  exact ⟨by rw [HZ.out]; rfl, hW⟩
          · by_cases h1 : t0 = 1
            · by_cases h2 : t1 = 1
              · subst h1 h2
                have HZ := Lib.hid (show res = (2, 0) by rw [HRES.out]; simp [tyN, opOf, opL])
                go_wp2
                go_loop [14] (fun i => ∃ j2 : Nat, j2 ≤ 2 ∧ i = .int .i64 (j2 : Int)) (fun i => 3 - (intOf i).toNat)
                case atStart => exact ⟨0, Nat.zero_le _, rfl⟩
                case round =>
                  obtain ⟨j2, hj2, rfl⟩ := hrel
                  rcases (show j2 = 0 ∨ j2 = 1 ∨ j2 = 2 by omega) with rfl | rfl | rfl
                  · go_wp2
                    go_round
                    case rel => exact ⟨1, by omega, rfl⟩
                    case measure => simp [intOf]
                  · go_wp2
                    go_round
                    case rel => exact ⟨2, by omega, rfl⟩
                    case measure => simp [intOf]
                  · go_wp2
                    go_ret2
                    exact ⟨by rw [HZ.out]; rfl, hW⟩
              · subst h1
                have q1 : (t1 == 1) = false := by simpa using h2
                have q2 : (t1 != 1) = true := by simpa using h2
                have HZ := Lib.hid (show res = (0, 15) by rw [HRES.out]; simp [tyN, opOf, opL]; omega)
                clear h2
                go_wp2
                go_loop [14] (fun i => ∃ j2 : Nat, j2 ≤ 1 ∧ i = .int .i64 (j2 : Int)) (fun i => 3 - (intOf i).toNat)
                case atStart => exact ⟨0, Nat.zero_le _, rfl⟩
                case round =>
                  obtain ⟨j2, hj2, rfl⟩ := hrel
                  rcases (show j2 = 0 ∨ j2 = 1 by omega) with rfl | rfl
                  · go_wp2
                    go_round
                    case rel => exact ⟨1, by omega, rfl⟩
                    case measure => simp [intOf]
                  · go_wp2
                    go_ret2
                    exact ⟨by rw [HZ.out]; rfl, hW⟩
            · have q1 : (t0 == 1) = false := by simpa using h1
              have q2 : (t0 != 1) = true := by simpa using h1
              have HZ := Lib.hid (show res = (0, 15) by rw [HRES.out]; simp [tyN, opOf, opL, h1])
              clear h1
              go_wp2
              go_loop [14] (fun i => ∃ j2 : Nat, j2 ≤ 0 ∧ i = .int .i64 (j2 : Int)) (fun i => 3 - (intOf i).toNat)
              case atStart => exact ⟨0, Nat.zero_le _, rfl⟩
              case round =>
                obtain ⟨j2, hj2, rfl⟩ := hrel
                obtain rfl : j2 = 0 := by omega
                · go_wp2
                  go_ret2
                  exact ⟨by rw [HZ.out]; rfl, hW⟩
          · by_cases h1 : t0 = 1
            · by_cases h2 : t1 = 1
              · subst h1 h2
                have HZ := Lib.hid (show res = (2, 0) by rw [HRES.out]; simp [tyN, opOf, opL])
                go_wp2
                go_loop [14] (fun i => ∃ j2 : Nat, j2 ≤ 2 ∧ i = .int .i64 (j2 : Int)) (fun i => 3 - (intOf i).toNat)
                case atStart => exact ⟨0, Nat.zero_le _, rfl⟩
                case round =>
                  obtain ⟨j2, hj2, rfl⟩ := hrel
                  rcases (show j2 = 0 ∨ j2 = 1 ∨ j2 = 2 by omega) with rfl | rfl | rfl
                  · go_wp2
                    go_round
                    case rel => exact ⟨1, by omega, rfl⟩
                    case measure => simp [intOf]
                  · go_wp2
                    go_round
                    case rel => exact ⟨2, by omega, rfl⟩
                    case measure => simp [intOf]
                  · go_wp2
                    go_ret2
                    exact ⟨by rw [HZ.out]; rfl, hW⟩
              · subst h1
                have q1 : (t1 == 1) = false := by simpa using h2
                have q2 : (t1 != 1) = true := by simpa using h2
                have HZ := Lib.hid (show res = (0, 15) by rw [HRES.out]; simp [tyN, opOf, opL]; omega)
                clear h2
                go_wp2
                go_loop [14] (fun i => ∃ j2 : Nat, j2 ≤ 1 ∧ i = .int .i64 (j2 : Int)) (fun i => 3 - (intOf i).toNat)
                case atStart => exact ⟨0, Nat.zero_le _, rfl⟩
                case round =>
                  obtain ⟨j2, hj2, rfl⟩ := hrel
                  rcases (show j2 = 0 ∨ j2 = 1 by omega) with rfl | rfl
                  · go_wp2
                    go_round
                    case rel => exact ⟨1, by omega, rfl⟩
                    case measure => simp [intOf]
                  · go_wp2
                    go_ret2
                    exact ⟨by rw [HZ.out]; rfl, hW⟩
            · have q1 : (t0 == 1) = false := by simpa using h1
              have q2 : (t0 != 1) = true := by simpa using h1
              have HZ := Lib.hid (show res = (0, 15) by rw [HRES.out]; simp [tyN, opOf, opL, h1])
              clear h1
              go_wp2
              go_loop [14] (fun i => ∃ j2 : Nat, j2 ≤ 0 ∧ i = .int .i64 (j2 : Int)) (fun i => 3 - (intOf i).toNat)
              case atStart => exact ⟨0, Nat.zero_le _, rfl⟩
              case round =>
                obtain ⟨j2, hj2, rfl⟩ := hrel
                obtain rfl : j2 = 0 := by omega
                · go_wp2
                  go_ret2
                  exact ⟨by rw [HZ.out]; rfl, hW⟩
          · by_cases h1 : t0 = 1
            · by_cases h2 : t1 = 1
              · subst h1 h2
                have HZ := Lib.hid (show res = (2, 0) by rw [HRES.out]; simp [tyN, opOf, opL])
                go_wp2
                go_loop [14] (fun i => ∃ j2 : Nat, j2 ≤ 2 ∧ i = .int .i64 (j2 : Int)) (fun i => 3 - (intOf i).toNat)
                case atStart => exact ⟨0, Nat.zero_le _, rfl⟩
                case round =>
                  obtain ⟨j2, hj2, rfl⟩ := hrel
                  rcases (show j2 = 0 ∨ j2 = 1 ∨ j2 = 2 by omega) with rfl | rfl | rfl
                  · go_wp2
                    go_round
                    case rel => exact ⟨1, by omega, rfl⟩
                    case measure => simp [intOf]
                  · go_wp2
                    go_round
                    case rel => exact ⟨2, by omega, rfl⟩
                    case measure => simp [intOf]
                  · go_wp2
                    go_ret2
                    exact ⟨by rw [HZ.out]; rfl, hW⟩
              · subst h1
                have q1 : (t1 == 1) = false := by simpa using h2
                have q2 : (t1 != 1) = true := by simpa using h2
                have HZ := Lib.hid (show res = (0, 15) by rw [HRES.out]; simp [tyN, opOf, opL]; omega)
                clear h2
                go_wp2
                go_loop [14] (fun i => ∃ j2 : Nat, j2 ≤ 1 ∧ i = .int .i64 (j2 : Int)) (fun i => 3 - (intOf i).toNat)
                case atStart => exact ⟨0, Nat.zero_le _, rfl⟩
                case round =>
                  obtain ⟨j2, hj2, rfl⟩ := hrel
                  rcases (show j2 = 0 ∨ j2 = 1 by omega) with rfl | rfl
                  · go_wp2
                    go_round
                    case rel => exact ⟨1, by omega, rfl⟩
                    case measure => simp [intOf]
                  · go_wp2
                    go_ret2
                    exact ⟨by rw [HZ.out]; rfl, hW⟩
            · have q1 : (t0 == 1) = false := by simpa using h1
              have q2 : (t0 != 1) = true := by simpa using h1
              have HZ := Lib.hid (show res = (0, 15) by rw [HRES.out]; simp [tyN, opOf, opL, h1])
              clear h1
              go_wp2
              go_loop [14] (fun i => ∃ j2 : Nat, j2 ≤ 0 ∧ i = .int .i64 (j2 : Int)) (fun i => 3 - (intOf i).toNat)
              case atStart => exact ⟨0, Nat.zero_le _, rfl⟩
              case round =>
                obtain ⟨j2, hj2, rfl⟩ := hrel
                obtain rfl : j2 = 0 := by omega
                · go_wp2
                  go_ret2
                  exact ⟨by rw [HZ.out]; rfl, hW⟩
          · by_cases h1 : t0 = 1
            · by_cases h2 : t1 = 1
              · subst h1 h2
                have HZ := Lib.hid (show res = (2, 0) by rw [HRES.out]; simp [tyN, opOf, opL])
                go_wp2
                go_loop [14] (fun i => ∃ j2 : Nat, j2 ≤ 2 ∧ i = .int .i64 (j2 : Int)) (fun i => 3 - (intOf i).toNat)
                case atStart => exact ⟨0, Nat.zero_le _, rfl⟩
                case round =>
                  obtain ⟨j2, hj2, rfl⟩ := hrel
                  rcases (show j2 = 0 ∨ j2 = 1 ∨ j2 = 2 by omega) with rfl | rfl | rfl
                  · go_wp2
                    go_round
                    case rel => exact ⟨1, by omega, rfl⟩
                    case measure => simp [intOf]
                  · go_wp2
                    go_round
                    case rel => exact ⟨2, by omega, rfl⟩
                    case measure => simp [intOf]
                  · go_wp2
                    go_ret2
                    exact ⟨by rw [HZ.out]; rfl, hW⟩
              · subst h1
                have q1 : (t1 == 1) = false := by simpa using h2
                have q2 : (t1 != 1) = true := by simpa using h2
                have HZ := Lib.hid (show res = (0, 15) by rw [HRES.out]; simp [tyN, opOf, opL]; omega)
                clear h2
                go_wp2
                go_loop [14] (fun i => ∃ j2 : Nat, j2 ≤ 1 ∧ i = .int .i64 (j2 : Int)) (fun i => 3 - (intOf i).toNat)
                case atStart => exact ⟨0, Nat.zero_le _, rfl⟩
                case round =>
                  obtain ⟨j2, hj2, rfl⟩ := hrel
                  rcases (show j2 = 0 ∨ j2 = 1 by omega) with rfl | rfl
                  · go_wp2
                    go_round
                    case rel => exact ⟨1, by omega, rfl⟩
                    case measure => simp [intOf]
                  · go_wp2
                    go_ret2
                    exact ⟨by rw [HZ.out]; rfl, hW⟩
            · have q1 : (t0 == 1) = false := by simpa using h1
              have q2 : (t0 != 1) = true := by simpa using h1
              have HZ := Lib.hid (show res = (0, 15) by rw [HRES.out]; simp [tyN, opOf, opL, h1])
              clear h1
              go_wp2
              go_loop [14] (fun i => ∃ j2 : Nat, j2 ≤ 0 ∧ i = .int .i64 (j2 : Int)) (fun i => 3 - (intOf i).toNat)
              case atStart => exact ⟨0, Nat.zero_le _, rfl⟩
              case round =>
                obtain ⟨j2, hj2, rfl⟩ := hrel
                obtain rfl : j2 = 0 := by omega
                · go_wp2
                  go_ret2
                  exact ⟨by rw [HZ.out]; rfl, hW⟩
          · by_cases h1 : t0 = 2
            · by_cases h2 : t1 = 2
              · subst h1 h2
                have HZ := Lib.hid (show res = (2, 0) by rw [HRES.out]; simp [tyN, opOf, opL])
                go_wp2
                go_loop [14] (fun i => ∃ j2 : Nat, j2 ≤ 2 ∧ i = .int .i64 (j2 : Int)) (fun i => 3 - (intOf i).toNat)
                case atStart => exact ⟨0, Nat.zero_le _, rfl⟩
                case round =>
                  obtain ⟨j2, hj2, rfl⟩ := hrel
                  rcases (show j2 = 0 ∨ j2 = 1 ∨ j2 = 2 by omega) with rfl | rfl | rfl
                  · go_wp2
                    go_round
                    case rel => exact ⟨1, by omega, rfl⟩
                    case measure => simp [intOf]
                  · go_wp2
                    go_round
                    case rel => exact ⟨2, by omega, rfl⟩
                    case measure => simp [intOf]
                  · go_wp2
                    go_ret2
                    exact ⟨by rw [HZ.out]; rfl, hW⟩
              · subst h1
                have q1 : (t1 == 2) = false := by simpa using h2
                have q2 : (t1 != 2) = true := by simpa using h2
                have HZ := Lib.hid (show res = (0, 15) by rw [HRES.out]; simp [tyN, opOf, opL]; omega)
                clear h2
                go_wp2
                go_loop [14] (fun i => ∃ j2 : Nat, j2 ≤ 1 ∧ i = .int .i64 (j2 : Int)) (fun i => 3 - (intOf i).toNat)
                case atStart => exact ⟨0, Nat.zero_le _, rfl⟩
                case round =>
                  obtain ⟨j2, hj2, rfl⟩ := hrel
                  rcases (show j2 = 0 ∨ j2 = 1 by omega) with rfl | rfl
                  · go_wp2
                    go_round
                    case rel => exact ⟨1, by omega, rfl⟩
                    case measure => simp [intOf]
                  · go_wp2
                    go_ret2
                    exact ⟨by rw [HZ.out]; rfl, hW⟩
            · have q1 : (t0 == 2) = false := by simpa using h1
              have q2 : (t0 != 2) = true := by simpa using h1
              have HZ := Lib.hid (show res = (0, 15) by rw [HRES.out]; simp [tyN, opOf, opL, h1])
              clear h1
              go_wp2
              go_loop [14] (fun i => ∃ j2 : Nat, j2 ≤ 0 ∧ i = .int .i64 (j2 : Int)) (fun i => 3 - (intOf i).toNat)
              case atStart => exact ⟨0, Nat.zero_le _, rfl⟩
              case round =>
                obtain ⟨j2, hj2, rfl⟩ := hrel
                obtain rfl : j2 = 0 := by omega
                · go_wp2
                  go_ret2
                  exact ⟨by rw [HZ.out]; rfl, hW⟩
          · by_cases h1 : t0 = 2
            · by_cases h2 : t1 = 2
              · subst h1 h2
                have HZ := Lib.hid (show res = (2, 0) by rw [HRES.out]; simp [tyN, opOf, opL])
                go_wp2
                go_loop [14] (fun i => ∃ j2 : Nat, j2 ≤ 2 ∧ i = .int .i64 (j2 : Int)) (fun i => 3 - (intOf i).toNat)
                case atStart => exact ⟨0, Nat.zero_le _, rfl⟩
                case round =>
                  obtain ⟨j2, hj2, rfl⟩ := hrel
                  rcases (show j2 = 0 ∨ j2 = 1 ∨ j2 = 2 by omega) with rfl | rfl | rfl
                  · go_wp2
                    go_round
                    case rel => exact ⟨1, by omega, rfl⟩
                    case measure => simp [intOf]
                  · go_wp2
                    go_round
                    case rel => exact ⟨2, by omega, rfl⟩
                    case measure => simp [intOf]
                  · go_wp2
                    go_ret2
                    exact ⟨by rw [HZ.out]; rfl, hW⟩
              · subst h1
                have q1 : (t1 == 2) = false := by simpa using h2
                have q2 : (t1 != 2) = true := by simpa using h2
                have HZ := Lib.hid (show res = (0, 15) by rw [HRES.out]; simp [tyN, opOf, opL]; omega)
                clear h2
                go_wp2
                go_loop [14] (fun i => ∃ j2 : Nat, j2 ≤ 1 ∧ i = .int .i64 (j2 : Int)) (fun i => 3 - (intOf i).toNat)
                case atStart => exact ⟨0, Nat.zero_le _, rfl⟩
                case round =>
                  obtain ⟨j2, hj2, rfl⟩ := hrel
                  rcases (show j2 = 0 ∨ j2 = 1 by omega) with rfl | rfl
                  · go_wp2
                    go_round
                    case rel => exact ⟨1, by omega, rfl⟩
                    case measure => simp [intOf]
                  · go_wp2
                    go_ret2
                    exact ⟨by rw [HZ.out]; rfl, hW⟩
            · have q1 : (t0 == 2) = false := by simpa using h1
              have q2 : (t0 != 2) = true := by simpa using h1
              have HZ := Lib.hid (show res = (0, 15) by rw [HRES.out]; simp [tyN, opOf, opL, h1])
              clear h1
              go_wp2
              go_loop [14] (fun i => ∃ j2 : Nat, j2 ≤ 0 ∧ i = .int .i64 (j2 : Int)) (fun i => 3 - (intOf i).toNat)
              case atStart => exact ⟨0, Nat.zero_le _, rfl⟩
              case round =>
                obtain ⟨j2, hj2, rfl⟩ := hrel
                obtain rfl : j2 = 0 := by omega
                · go_wp2
                  go_ret2
                  exact ⟨by rw [HZ.out]; rfl, hW⟩

end Go.Proofs.YtgkalcboklhdgaaDoor

namespace Go.Proofs.YtgkalcboklhdgaaDoor
open Go.RowKit
set_option linter.unusedVariables false
set_option linter.unusedSimpArgs false
open Ex

theorem chk_zero {e : Ex} (h : e.chk = 0) : e.size ≤ 100 ∧ e.height ≤ 12 ∧ e.fe = 0 := by
  unfold Ex.chk at h
  by_cases h1 : 100 < e.size
  · rw [if_pos h1] at h; cases h
  · rw [if_neg h1] at h
    by_cases h2 : 12 < e.height
    · rw [if_pos h2] at h; cases h
    · rw [if_neg h2] at h; exact ⟨by omega, by omega, h⟩
/-- what Type returns -/
def tyR (bs : List Bn) (e : Ex) : Int × Int := if e.chk ≠ 0 then (0, e.chk) else if bnds bs then e.ty bs else (0, 1)
theorem tyR_zero {bs : List Bn} {e : Ex} (h : (tyR bs e).2 = 0) : e.chk = 0 ∧ bnds bs = true ∧ tyR bs e = e.ty bs := by
  unfold tyR at h ⊢
  by_cases h1 : e.chk = 0
  · rw [if_neg (by simp [h1])] at h ⊢
    cases hb : bnds bs with
    | true => rw [hb] at h; exact ⟨h1, rfl, by simp⟩
    | false => rw [hb] at h; cases h
  · rw [if_pos h1] at h; exact absurd h h1

set_option maxHeartbeats 1000000 in
theorem Type_any (bs : List Bn) (pb : Option Addr) (cb : Nat) (e : Ex) (p : Option Addr) (c : Nat) (w : World) (hA : Ex.At w p e) (hB : BAt w pb bs) :
    Gives Tryd.prog 11 #[e.val p c, .slice pb bs.length cb] w (i2V (tyR bs e)) := by
  have C1 := Lib.hid (fun W (h : Ext w W) => show Gives _ _ #[.agg #[.int .i64 e.kind, .int .i64 e.op, sV e.name, .int .i64 e.value, .slice p e.args.length c]] _ _ from Check_any e p c W (hA.below h))
  have C2 := Lib.hid (fun W (h : Ext w W) => show Gives _ _ #[.slice pb bs.length cb] _ _ from bound_any bs pb cb W (hB.below h))
  have C3 := Lib.hid (fun W (h : Ext w W) (h0 : e.fe = 0) => show Gives _ _ #[.agg #[.int .i64 e.kind, .int .i64 e.op, sV e.name, .int .i64 e.value, .slice p e.args.length c], _] _ _ from typed_any bs pb cb e.size e (Nat.le_refl _) p c W (hA.below h) (hB.below h) h0)
  have HZ := Lib.hid (fun h => (chk_zero (e := e) h).2.2)
  have HT := Lib.hid (show tyR bs e = if e.chk ≠ 0 then (0, e.chk) else if bnds bs then e.ty bs else (0, 1) from rfl)
  generalize tyR bs e = r at *
  unfold Gives Ex.val
  generalize e.kind = k1 at *
  generalize e.op = o1 at *
  generalize e.name = n1 at *
  generalize e.value = v1 at *
  generalize e.args.length = l1 at *
  generalize e.chk = f1 at *
  generalize e.ty bs = t1 at *
  obtain ⟨t1, t2⟩ := t1
  clear hA hB
  by_cases h1 : f1 = 0
  · subst h1
    have hfe := HZ.out rfl
    have C3' := Lib.hid (fun W (h : Ext w W) => C3.out W h hfe)
    clear C3 HZ hfe
    unfold i2V at C3' ⊢
    cases hb : bnds bs with
    | true =>
      have HR := Lib.hid (show r = (t1, t2) by rw [HT.out, hb]; rfl)
      rw [hb] at C2
      clear HT hb
      go_enter Tryd.func11, Tryd.ntmps11
      go_wp2_with fail
      refine (C1.out _ ((Below.refl _ w).alloc (Nat.le_refl _) _)).mono ?_
      intro w1 hB1
      obtain ⟨b0, b1, b2, b3, b4, hW⟩ := Ext.box hB1
      have HW := Lib.hid hW
      have HB1 := Lib.hid hB1
      clear hB1 C1 hW
      go_wp2_with fail
      refine (C2.out _ HW.out).mono ?_
      intro w2 hB2
      obtain ⟨b0, b1, b2, b3, b4, hW⟩ := Ext.box (Ext.trans HB1.out hB2)
      have HW2 := Lib.hid hW
      clear hB2 C2 hW HB1
      go_wp2_with fail
      refine (C3'.out _ HW2.out).mono ?_
      intro w3 hB3
      go_wp2
      go_ret2
      exact ⟨by rw [HR.out]; rfl, Ext.trans HW2.out hB3⟩
    | false =>
      have HR := Lib.hid (show r = (0, 1) by rw [HT.out, hb]; rfl)
      rw [hb] at C2
      clear HT hb
      go_enter Tryd.func11, Tryd.ntmps11
      go_wp2_with fail
      refine (C1.out _ ((Below.refl _ w).alloc (Nat.le_refl _) _)).mono ?_
      intro w1 hB1
      obtain ⟨b0, b1, b2, b3, b4, hW⟩ := Ext.box hB1
      have HW := Lib.hid hW
      clear hB1 C1 hW
      go_wp2_with fail
      refine (C2.out _ HW.out).mono ?_
      intro w2 hB2
      go_wp2
      go_ret2
      exact ⟨by rw [HR.out]; rfl, Ext.trans HW.out hB2⟩
  · have hg1 : (f1 == 0) = false := by simpa using h1
    have hg2 : (f1 != 0) = true := by simpa using h1
    have HR := Lib.hid (show r = (0, f1) by rw [HT.out, if_pos h1])
    unfold i2V
    clear h1 HT
    go_enter Tryd.func11, Tryd.ntmps11
    go_wp2_with fail
    refine (C1.out _ ((Below.refl _ w).alloc (Nat.le_refl _) _)).mono ?_
    intro w1 hB1
    go_wp2
    go_ret2
    exact ⟨by rw [HR.out]; rfl, Ext.trans ((Below.refl _ w).alloc (Nat.le_refl _) _) hB1⟩

set_option maxHeartbeats 1000000 in
theorem refType_any (bs : List Bn) (pb : Option Addr) (cb : Nat) (e : Ex) (p : Option Addr) (c : Nat) (w : World) (hA : Ex.At w p e) (hB : BAt w pb bs) :
    Gives Tryd.prog 12 #[e.val p c, .slice pb bs.length cb] w (i2V (tyR bs e)) := by
  have C1 := Lib.hid (fun W (h : Ext w W) => show Gives _ _ #[.agg #[.int .i64 e.kind, .int .i64 e.op, sV e.name, .int .i64 e.value, .slice p e.args.length c]] _ _ from refChk_any e p c W (hA.below h))
  have C2 := Lib.hid (fun W (h : Ext w W) => show Gives _ _ #[.slice pb bs.length cb] _ _ from refBound_any bs pb cb W (hB.below h))
  have C3 := Lib.hid (fun W (h : Ext w W) (h0 : e.fe = 0) => show Gives _ _ #[.agg #[.int .i64 e.kind, .int .i64 e.op, sV e.name, .int .i64 e.value, .slice p e.args.length c], _] _ _ from refTyped_any bs pb cb e.size e (Nat.le_refl _) p c W (hA.below h) (hB.below h) h0)
  have HZ := Lib.hid (fun h => (chk_zero (e := e) h).2.2)
  have HT := Lib.hid (show tyR bs e = if e.chk ≠ 0 then (0, e.chk) else if bnds bs then e.ty bs else (0, 1) from rfl)
  generalize tyR bs e = r at *
  unfold Gives Ex.val
  generalize e.kind = k1 at *
  generalize e.op = o1 at *
  generalize e.name = n1 at *
  generalize e.value = v1 at *
  generalize e.args.length = l1 at *
  generalize e.chk = f1 at *
  generalize e.ty bs = t1 at *
  obtain ⟨t1, t2⟩ := t1
  clear hA hB
  by_cases h1 : f1 = 0
  · subst h1
    have hfe := HZ.out rfl
    have C3' := Lib.hid (fun W (h : Ext w W) => C3.out W h hfe)
    clear C3 HZ hfe
    unfold i2V at C3' ⊢
    cases hb : bnds bs with
    | true =>
      have HR := Lib.hid (show r = (t1, t2) by rw [HT.out, hb]; rfl)
      rw [hb] at C2
      clear HT hb
      go_enter Tryd.func12, Tryd.ntmps12
      go_wp2_with fail
      refine (C1.out _ ((Below.refl _ w).alloc (Nat.le_refl _) _)).mono ?_
      intro w1 hB1
      obtain ⟨b0, b1, b2, b3, b4, hW⟩ := Ext.box hB1
      have HW := Lib.hid hW
      have HB1 := Lib.hid hB1
      clear hB1 C1 hW
      go_wp2_with fail
      refine (C2.out _ HW.out).mono ?_
      intro w2 hB2
      obtain ⟨b0, b1, b2, b3, b4, hW⟩ := Ext.box (Ext.trans HB1.out hB2)
      have HW2 := Lib.hid hW
      clear hB2 C2 hW HB1
      go_wp2_with fail
      refine (C3'.out _ HW2.out).mono ?_
      intro w3 hB3
      go_wp2
      go_ret2
      exact ⟨by rw [HR.out]; rfl, Ext.trans HW2.out hB3⟩
    | false =>
      have HR := Lib.hid (show r = (0, 1) by rw [HT.out, hb]; rfl)
      rw [hb] at C2
      clear HT hb
      go_enter Tryd.func12, Tryd.ntmps12
      go_wp2_with fail
      refine (C1.out _ ((Below.refl _ w).alloc (Nat.le_refl _) _)).mono ?_
      intro w1 hB1
      obtain ⟨b0, b1, b2, b3, b4, hW⟩ := Ext.box hB1
      have HW := Lib.hid hW
      clear hB1 C1 hW
      go_wp2_with fail
      refine (C2.out _ HW.out).mono ?_
      intro w2 hB2
      go_wp2
      go_ret2
      exact ⟨by rw [HR.out]; rfl, Ext.trans HW.out hB2⟩
  · have hg1 : (f1 == 0) = false := by simpa using h1
    have hg2 : (f1 != 0) = true := by simpa using h1
    have HR := Lib.hid (show r = (0, f1) by rw [HT.out, if_pos h1])
    unfold i2V
    clear h1 HT
    go_enter Tryd.func12, Tryd.ntmps12
    go_wp2_with fail
    refine (C1.out _ ((Below.refl _ w).alloc (Nat.le_refl _) _)).mono ?_
    intro w1 hB1
    go_wp2
    go_ret2
    exact ⟨by rw [HR.out]; rfl, Ext.trans ((Below.refl _ w).alloc (Nat.le_refl _) _) hB1⟩

end Go.Proofs.YtgkalcboklhdgaaDoor

