/- Lemmas and walks for the statements of this seat, part 6, merged from smaller texts: slices.Sort and slices.Compact on rows of the call's own.; Print in general: Itoa of a program whose table stands; slices.Equal of two rows.; Names.; Arguments that came in: an expression as a tree. -/
import Derived.Sort.OwnSorted
import Derived.Lib.ItoaMem
import Derived.Lib.LaidTab
import Derived.Deep.Slices
import Derived.Deep.Fields
import Derived.ChangeSame
import Derived.Lib.SmallJoins
import Derived.SizedLaws
import Derived.Test.YtmokejjndkibhaaGreatDoorPart5
import Derived.Test.YtmokejjndkibhaaGreatDoorPart3
import Derived.Test.YtmokejjndkibhaaGreatDoorPart5

namespace Go.Proofs.YtmokejjndkibhaaGreatDoor
open Go.RowKit
set_option linter.unusedVariables false
set_option linter.unusedSimpArgs false

theorem grownBy_refl (w : World) (row : Option Nat) : w.grownBy w row := ⟨rfl, rfl, rfl, Nat.le_refl _, fun _ _ _ => rfl⟩
theorem grownBy_put {w : World} {g q : Nat} (d : Array (List UInt8)) : w.grownBy (Go.Sort.putRow encStr (Go.Sort.ahead w q) g 0 d) (some g) := by
  have h := grownBy_sorted (w := w) (g := g) (n := q) (os := #[]) d
  rwa [Go.Sort.grow_empty] at h
theorem Sort_row {base : Nat} {v : Value} {l : List (List UInt8)} {w : World} (h : RowS base v l w) (hl : l.length ≤ 1000000000) :
    Calls Tryz.prog 57 #[v] w fun e w' => e = .returned (.tuple #[]) ∧ RowS base v (l.mergeSort fun x y => decide (x ≤ y)) w' ∧ w.grownBy w' v.ownBlock := by
  rcases h.2 with ⟨rfl, h0⟩ | ⟨g, cap, cur, rfl, hb, hg, hn, hm, hs, ht⟩
  · obtain rfl := List.eq_nil_of_length_eq_zero h0
    refine (Tryz.slices_Sort_string_none none 0 w).mono ?_
    rintro e w' ⟨rfl, rfl⟩
    exact ⟨rfl, by rw [List.mergeSort_nil]; exact RowS.nil _ _, grownBy_refl _ _⟩
  · refine (Tryz.slices_Sort_string g 0 cap l w (holds_of_block hg (by have t := ht; rw [Nat.mul_one] at t; exact t)) (lt_of_block hg) (by omega)).mono ?_
    rintro e w' ⟨rfl, n, os, rfl⟩
    refine ⟨rfl, ?_, grownBy_sorted _⟩
    have h := ownsRow_sorted (n := n) (os := os) (ts := l.mergeSort fun x y => decide (x ≤ y)) (List.length_mergeSort l) hb hg hn hm hs
    unfold RowS
    rw [List.length_mergeSort]
    exact h
theorem Compact_row {base : Nat} {v : Value} {l : List (List UInt8)} {w : World} (h : RowS base v l w) (hl : l.length ≤ 1000000000) :
    Calls Tryz.prog 58 #[v] w fun e w' => ∃ v', e = .returned v' ∧ RowS base v' (Lib.compact l) w' ∧ w.grownBy w' v.ownBlock := by
  rcases h.2 with ⟨rfl, h0⟩ | ⟨g, cap, cur, rfl, hb, hg, hn, hm, hs, ht⟩
  · obtain rfl := List.eq_nil_of_length_eq_zero h0
    refine (Tryz.slices_Compact_string_empty none 0 w).mono ?_
    rintro e w' ⟨rfl, rfl⟩
    exact ⟨_, rfl, RowS.nil _ _, grownBy_refl _ _⟩
  · refine (Tryz.slices_Compact_string g 0 cap l w (holds_of_block hg (by have t := ht; rw [Nat.mul_one] at t; exact t)) (by omega) hn).mono ?_
    rintro e w' ⟨rfl, q, rfl⟩
    refine ⟨_, rfl, ?_, grownBy_put _⟩
    have hc := Lib.compact_length_le l
    have h' := Lib.ownsRow_putRow (enc := encStr) (q := q) (k := (Lib.compact l).length) (ys := Lib.compact l ++ List.replicate (l.length - (Lib.compact l).length) []) h (by simp; omega) hc
    rw [List.take_left] at h'
    exact h'
theorem keepT_grown {W W' : World} {base n : Nat} {v : Value} {xs : List Value} (h : W.ownsRow base 9 1 v n xs) (hg : W.grownBy W' v.ownBlock) : KeepT tEx W W' := by
  refine ⟨hg.size, fun j c f hx => (hg.block j (lt_of_block hx) fun e => ?_).trans hx⟩
  rcases h.2 with ⟨rfl, _⟩ | ⟨g, cap, cur, rfl, _, hgb, _⟩
  · simp [Value.ownBlock] at e
  · obtain rfl : j = g := by simpa [Value.ownBlock] using e
    rw [hgb] at hx
    simp at hx
    exact absurd hx.2.1 (by decide)
theorem keepT_box {W : World} {A : Nat} {v u : Value} (h : Boxed W A 48 v) : KeepT tEx W (W.setCell ⟨A, 0, none⟩ u) := by
  refine ⟨by simp [World.setCell], fun j c f hx => ?_⟩
  have hne : A ≠ j := fun e => by
    subst e
    have := (show W.heap[A]? = _ from h).symm.trans hx
    simp at this
    exact absurd this.2.1 (by decide)
  exact (Below.heap_setCell _ _ _ _ (fun e => hne e.symm)).trans hx
theorem row_cells {W : World} {base n : Nat} {e : TypeId} {v : Value} {xs : List Value} (h : W.ownsRow base e 1 v n xs) : ∀ (j : Nat) (o : Obj), v.ownBlock = some j → W.heap[j]? = some o → o.isCells = true := by
  intro j o ej hj
  rcases h.2 with ⟨rfl, _⟩ | ⟨g, cap, cur, rfl, _, hgb, _⟩
  · simp [Value.ownBlock] at ej
  · obtain rfl : g = j := by simpa [Value.ownBlock] using ej
    rw [hgb] at hj; cases hj; rfl
theorem row_ne {W : World} {base n : Nat} {e : TypeId} {v : Value} {xs : List Value} {D : Nat} {o : Option (List Deferred)} (h : W.ownsRow base e 1 v n xs) (hD : W.heap[D]? = some (.deferred o)) : v.ownBlock = none ∨ v.ownBlock ≠ some D := by
  right
  intro e1
  have := row_cells h D _ e1 hD
  cases this
theorem nmP_len : ∀ l : List PEx, (nmP l).length ≤ l.length
  | [] => by simp [nmP]
  | d :: l => by
    have := nmP_len l
    simp only [nmP, List.length_append, List.length_cons]
    split <;> simp <;> omega

end Go.Proofs.YtmokejjndkibhaaGreatDoor

namespace Go.Proofs.YtmokejjndkibhaaGreatDoor
open Go.RowKit
set_option linter.unusedVariables false
set_option linter.unusedSimpArgs false
open Ex

/-- the table of powers of ten stands -/
def TabW (w : World) : Prop := Lib.TabIs Tryz.prog w "internal/strconv.uint64pow10" .u64 Lib.pow10Tab
theorem TabW.below {w W : World} (h : TabW w) (hb : Below w.heap.size w W) : TabW W := by
  unfold TabW Lib.TabIs World.var? at h ⊢
  cases hg : Tryz.prog.globalNamed "internal/strconv.uint64pow10" with
  | none => rw [hg] at h; cases h
  | some g =>
    rw [hg] at h
    simp only [Option.bind_some] at h ⊢
    have hlt : g < w.heap.size := by
      rcases Nat.lt_or_ge g w.heap.size with h' | h'
      · exact h'
      · rw [Array.getElem?_eq_none h'] at h; cases h
    rw [hb.block g hlt]
    exact h
theorem ext_grow (w : World) (k : Nat) (os : Array Obj) : Ext w (Go.Sort.grow (w.drewN k) os) :=
  ⟨rfl, rfl, rfl, by simp [Go.Sort.grow], fun j hj => by rw [Go.Sort.heap_grow_old _ _ (by simpa using hj)]; simp⟩
theorem Itoa_gen {w : World} (hT : TabW w) (v : Int) (W : World) (hv : 0 ≤ v ∧ v ≤ 1099511627776) (hb : Below w.heap.size w W) :
    Calls Tryz.prog 84 #[.int .i64 v] W fun r w' => r = .returned (sV (decI v)) ∧ Ext W w' := by
  refine (Tryz.strconv_Itoa v (by omega) (by omega) W (hT.below hb)).mono ?_
  rintro e w' ⟨rfl, k, os, rfl⟩
  refine ⟨?_, ext_grow _ _ _⟩
  unfold decI Lib.itoa
  rw [if_neg (by omega)]
  rfl
theorem PrintZ_any (e : Ex) (p : Option Addr) (c : Nat) (w : World) (hT : TabW w) (hA : Ex.At w p e) :
    Gives Tryz.prog 27 #[e.val p c] w (.tuple #[sV (prR decI e).1, .int .i64 (prR decI e).2]) :=
  Print_any (fun v => 0 ≤ v ∧ v ≤ 1099511627776) decI (fun W => Below w.heap.size w W) (fun v W hv hW => Itoa_gen hT v W hv hW) e
    (fun h => ⟨nums_of e (chk_zero h).2.2, txt_le h⟩) p c w (fun B hB W W' h hK => hK.trans (h.mono hB)) (Below.refl _ _) hA
end Go.Proofs.YtmokejjndkibhaaGreatDoor

namespace Go.Proofs.YtmokejjndkibhaaGreatDoor
open Go.RowKit
set_option linter.unusedVariables false
set_option linter.unusedSimpArgs false
attribute [local go_sem] Oper.semAt_some
open Ex

set_option maxRecDepth 100000 in
set_option maxHeartbeats 4000000 in
theorem Names_any (e : Ex) (p : Option Addr) (c : Nat) (w : World) (hA : Ex.At w p e) :
    Calls Tryz.prog 29 #[e.val p c] w fun e' w' => ∃ v', e' = .returned v' ∧ RowS w.heap.size v' (nmR e) w' ∧ Ext w w' := by
  have C1 := Lib.hid (fun W (h : Ext w W) => show Gives _ _ #[.agg #[.int .i64 e.kind, .int .i64 e.op, sV e.name, .int .i64 e.value, .slice p e.args.length c]] _ _ from Check_any e p c W (hA.below h))
  have HN := Lib.hid (show e.chk ≠ 0 → nmR e = [] from fun h => by unfold nmR; rw [if_pos h])
  obtain ⟨d, hd1, hd2, hd3, hP⟩ := PEx.of_at c hA
  have HZ := Lib.hid (show e.chk = 0 → Lib.compact ((nmP d.pre).mergeSort fun x y => decide (x ≤ y)) = nmR e ∧ d.pre.length ≤ 100 from fun h => by
    obtain ⟨h1, h2, h3⟩ := chk_zero h
    refine ⟨?_, by rw [PEx.pre_length, hd1]; exact h1⟩
    rw [nmP_pre d (by rw [hd1]; exact h3), hd1, sorted_eq]
    unfold nmR
    rw [if_neg (by simp [h])])
  have HST := Lib.hid (fun n B W h1 h2 h3 => show SeqStopsK Fence.wide n Tryz.prog 87 #[.pointer (some ⟨B, 0, none⟩)] (fun x : Pt => #[x.1.val]) (Kx w.heap.size) (fun ys => ys.map (·.1) = d.pre) (fun ys => ys.map (·.1) <+: d.pre) d.pre.length W from
    parts_stops Fence.wide rfl n trivial trivial rfl B w.heap.size d W h1 h2 h3)
  rw [hd2, hd3, hd1] at HST
  have HP := Lib.hid hP
  have hv : e.val p c = .agg #[.int .i64 e.kind, .int .i64 e.op, sV e.name, .int .i64 e.value, .slice p e.args.length c] := rfl
  rw [hv]
  clear hv hd1 hP
  generalize nmR e = R at *
  generalize e.chk = r at *
  generalize d.pre = P1 at *
  generalize e.kind = k1 at *
  generalize e.op = o1 at *
  generalize e.name = n1 at *
  generalize e.value = v1 at *
  generalize e.args.length = l1 at *
  have HA1 := Lib.hid (show Ext w (w.alloc (.cells #[.int .i64 k1, .int .i64 o1, sV n1, .int .i64 v1, .slice p l1 c] 25)) from (Below.refl _ w).alloc (Nat.le_refl _) _)
  obtain ⟨i0, hi, hz0, hz1, hz2⟩ := info_parts infoS'
  refine (callsIn_wide (n := 9)).1 ?_
  refine callsIn_of_wp_marks Tryz.func29 rfl trivial ?_ rfl
  simp only [Tryz.ntmps29, List.size_toArray, List.length_cons, List.length_nil, Nat.reduceAdd, Nat.reduceSub, Array.replicate_succ, Array.replicate_zero, List.push_toArray, List.append_toArray, List.nil_append, List.cons_append]
  gi_wp2_with (fail)
  refine ⟨trivial, callsIn_wide.2 (Calls.mono (C1.out _ HA1.out) ?_)⟩
  rintro x W1 ⟨rfl, hE1⟩
  have hbE : W1.heap[w.heap.size]? = some (.cells (exC k1 o1 n1 v1 p l1 c) tEx (0, 0)) := (hE1.block _ (by simp)).trans (alloc_here _ _)
  have hW1 : Ext w W1 := Ext.trans HA1.out hE1
  have hbE2 : (W1.alloc (.cells #[.slice none 0 0] 48)).heap[w.heap.size]? = _ := (Below.heap_alloc _ _ _ (lt_of_block hbE)).trans hbE
  have b0 : (W1.alloc (.cells #[.slice none 0 0] 48)).cell? ⟨w.heap.size, 0, none⟩ = some (.int .i64 k1) := cell_of hbE2 rfl
  have b1 : (W1.alloc (.cells #[.slice none 0 0] 48)).cell? ⟨w.heap.size, 1, none⟩ = some (.int .i64 o1) := cell_of hbE2 rfl
  have b2 : (W1.alloc (.cells #[.slice none 0 0] 48)).cell? ⟨w.heap.size, 2, none⟩ = some (sV n1) := cell_of hbE2 rfl
  have b3 : (W1.alloc (.cells #[.slice none 0 0] 48)).cell? ⟨w.heap.size, 3, none⟩ = some (.int .i64 v1) := cell_of hbE2 rfl
  have b4 : (W1.alloc (.cells #[.slice none 0 0] 48)).cell? ⟨w.heap.size, 4, none⟩ = some (.slice p l1 c) := cell_of hbE2 rfl
  have HW1 := Lib.hid hW1
  clear hbE hbE2 hW1 hE1 C1 HA1
  by_cases hr : r = 0
  · subst hr
    have HZ0 := Lib.hid (HZ.out rfl)
    clear HN HZ
    gi_wp2_with (fail)
    refine ⟨trivial, callsIn_wide.2 ((xparts_any _ _ _ _ _ _ _ _).mono ?_)⟩
    rintro x W3 ⟨B2, rfl, hb3, hE3⟩
    have hA3 : Boxed W3 W1.heap.size 48 (.slice none 0 0) := (hE3.block _ (by simp)).trans (alloc_here _ _)
    have hW3 : Ext w W3 := Below.trans HW1.out ((Below.alloc (Below.refl _ W1) (Nat.le_refl _) (.cells #[.slice none 0 0] 48)).trans (hE3.mono (by simp)) |>.mono HW1.out.size)
    have hP3 := HP.out.low hW3
    have hn1 : w.heap.size ≤ W1.heap.size := HW1.out.size
    have hn3 : w.heap.size ≤ W3.heap.size := hW3.size
    generalize W1.heap.size = A at *
    clear b0 b1 b2 b3 b4 HW1 hE3
    gi_wp2_with (fail)
    refine wpIn_rangeFunc_ownH rfl (by omega) (gf := 87) (lb := #[.pointer (some ⟨B2, 0, none⟩)]) rfl trivial (enters_fn Tryz.func87 (by kernel_rfl) rfl)
      (encs := fun x : Pt => #[(.agg #[.int .i64 x.1.er.kind, .int .i64 x.1.er.op, sV x.1.er.name, .int .i64 x.1.er.value, .slice x.1.ptr x.1.er.args.length x.1.cap])]) (HST.out 8 B2 W3 hn3 hb3 hP3) Kx.trans (Kx.putObj hn3) (Below.refl _ _) (fun _ => rfl)
      (fun ys W => (∃ v, Boxed W A 48 v ∧ W.ownsRow w.heap.size 9 1 v (nmP (ys.map (·.1))).length ((nmP (ys.map (·.1))).map sV) ∧ True) ∧ Below w.heap.size w W)
      (fun _ _ _ => False)
      (OwnFrom.and (Own.from (holdsRow_own w.heap.size A 48 9 1 (fun (ys : List Pt) => (nmP (ys.map (·.1))).length) (fun (ys : List Pt) => (nmP (ys.map (·.1))).map sV) (fun pre v => True)) _) (ownFrom_below (Nat.le_refl _) hn3))
      (fun _ _ _ _ _ hs _ _ => hs)
      ⟨⟨_, hA3, World.ownsRow_nil _ _ _ _, trivial⟩, hW3⟩
      (fun x a' W => ∃ Bx, W.heap[Bx]? = some (.cells (exC x.1.er.kind x.1.er.op x.1.er.name x.1.er.value x.1.ptr x.1.er.args.length x.1.cap) tEx (0, 0)) ∧ a' = { tmps := #[(.agg #[.int .i64 k1, .int .i64 o1, sV n1, .int .i64 v1, .slice p l1 c]), .pointer (some ⟨w.heap.size, 0, none⟩), .slice none 0 0, .pointer (some ⟨A, 0, none⟩), .pointer (some ⟨Bx, 0, none⟩), (.agg #[.int .i64 k1, .int .i64 o1, sV n1, .int .i64 v1, .slice p l1 c]), .int .i64 0, .bool false, (.agg #[.int .i64 k1, .int .i64 o1, sV n1, .int .i64 v1, .slice p l1 c]), .func (.func 87) #[] #[.pointer (some ⟨B2, 0, none⟩)], (.agg #[.int .i64 x.1.er.kind, .int .i64 x.1.er.op, sV x.1.er.name, .int .i64 x.1.er.value, .slice x.1.ptr x.1.er.args.length x.1.cap]), undef, undef, undef, undef, undef, undef, undef, undef, undef, undef, undef, undef], defers := [] })
      (fun x a' _ X Y row hs hg hr => by obtain ⟨Bx, h1, h3⟩ := hs; exact ⟨Bx, cells_own h1 hg (fun r e => (hr r e).2), h3⟩)
      ?assign ?body ?done ?stop
    case assign =>
      rintro l ys x W K ⟨⟨v, h1, h2, _⟩, h3⟩ hK
      have hw := h3.size
      generalize x.1.er.kind = k2 at *
      generalize x.1.er.op = o2 at *
      generalize x.1.er.name = n2 at *
      generalize x.1.er.value = v2 at *
      generalize x.1.er.args.length = l2 at *
      generalize x.1.ptr = q2 at *
      generalize x.1.cap = c2 at *
      gi_wp2
      exact hK _ _ ((KeepsOthers.alloc _ _).from _) (Kx.of_ext ((Below.refl _ W).alloc (Nat.le_refl _) _) hw) ⟨⟨_, h1.alloc _, h2.alloc _, trivial⟩, h3.alloc hw _⟩ ⟨W.heap.size, alloc_here _ _, rfl⟩
    case body =>
      rintro l ys x a' W hl ⟨rr, hr⟩ ⟨⟨v, h1, h2, _⟩, h3⟩ ⟨Bx, hbx, rfl⟩ hlt
      have hw := h3.size
      have HF := Lib.hid (show nmP ((ys ++ [x]).map (·.1)) = nmP (ys.map (·.1)) ++ (if x.1.er.kind = 2 then [x.1.er.name] else []) from by rw [List.map_append, nmP_app]; simp [nmP])
      have hlen : (nmP (ys.map (·.1))).length ≤ 100 := by
        have a1 := nmP_len (ys.map (·.1))
        rw [List.length_map] at a1
        have a2 := HZ0.out.2
        omega
      generalize nmP (ys.map (·.1)) = L1 at *
      generalize x.1.er.kind = k2 at *
      generalize x.1.er.op = o2 at *
      generalize x.1.er.name = n2 at *
      generalize x.1.er.value = v2 at *
      generalize x.1.er.args.length = l2 at *
      generalize x.1.ptr = q2 at *
      generalize x.1.cap = c2 at *
      have b0 : W.cell? ⟨Bx, 0, none⟩ = some (.int .i64 k2) := cell_of hbx rfl
      have b2 : W.cell? ⟨Bx, 2, none⟩ = some (sV n2) := cell_of hbx rfl
      by_cases hk : k2 = 2
      · subst hk
        have HF2 := Lib.hid (show nmP ((ys ++ [x]).map (·.1)) = L1 ++ [n2] from HF.out)
        clear HF
        have hc := h1.cell
        gi_wp2_with (gi_at_builtin; go_must (refine wpListIn_append_own _ rfl _ _ 48 rfl w.heap.size 9 i0 (sV []) 1 16 Tryz.underlying48 hi hz0 hz1 hz2 rfl (by decide) v L1.length (L1.map sV) rfl (h2.alloc _) ⟨W.heap.size, 0, none⟩ 1 1 [sV n2] rfl rfl (cell_one_new _ _ _) (by simp [Value.oneCell']) (by unfold maxLen; omega) (by omega) (by simp; omega) ?_); intro v' w1 hown' hgrow _; go_must (obtain ⟨g', cap', rfl⟩ := ownsRow_succ hown'); go_must (obtain ⟨hv1, hv2, hr2, hk2, hb2⟩ := h1.appended (by decide) h2 (by omega) (by omega) hown' hgrow); have hc1 := hv1.cell; have hf1 := hv1.frozen; go_must (have HK1 := Lib.hid (keepT_grown (h2.alloc _) hgrow)); go_must (have HK2 := Lib.hid (keepT_box (u := .slice (some ⟨g', 0, none⟩) (L1.length + 1) cap') hv1)))
        have hKK := ((KeepT.of_ext (T := tEx) ((Below.refl _ W).alloc (Nat.le_refl _) (.cells #[sV n2] 9))).trans HK1.out).trans HK2.out
        exact ⟨hk2.from _, ⟨hb2, hKK⟩, ⟨_, hv2, by rw [HF2.out]; simpa using hr2, trivial⟩, h3.trans hb2⟩
      · have hk1 : (k2 == 2) = false := by simpa using hk
        have HF2 := Lib.hid (show nmP ((ys ++ [x]).map (·.1)) = L1 by rw [HF.out, if_neg hk, List.append_nil])
        clear hk HF
        gi_wp2
        exact ⟨KeepsFrom.refl _ _, Kx.refl _ _, ⟨_, h1, by rw [HF2.out]; exact h2, trivial⟩, h3⟩
    case done =>
      rintro D ys W hD hys ⟨⟨v, h1, h2, _⟩, h3⟩ hK
      have hys' : ys.map (·.1) = P1 := hys
      rw [hys'] at h2
      clear hys hys'
      have hw := h3.size
      have hlen : (nmP P1).length ≤ 1000000000 := by
        have a1 := nmP_len P1
        have a2 := HZ0.out.2
        omega
      have hc := h1.cell
      have CS := Sort_row (base := w.heap.size) (v := v) (l := nmP P1) (w := W) h2 hlen
      gi_wp2_with (fail)
      refine ⟨trivial, callsIn_wide.2 (CS.mono ?_)⟩
      rintro x W4 ⟨rfl, hr4, hg4⟩
      have h14 : Boxed W4 A 48 v := h1.kept hg4 (h1.not_row (by decide) h2)
      have hc4 := h14.cell
      have hB4 : Below w.heap.size w W4 := h3.grown hg4 hw (fun k e => (World.ownsRow.lt h2 k e).1)
      have hK4 := (KeepsOthers.of_grownBy hg4 (row_cells h2)).same D _ hK rfl
      have CC := Compact_row (base := w.heap.size) (v := v) hr4 (by rw [List.length_mergeSort]; exact hlen)
      clear hc
      gi_wp2_with (fail)
      refine ⟨trivial, callsIn_wide.2 (CC.mono ?_)⟩
      rintro x W5 ⟨v', rfl, hr5, hg5⟩
      have hB5 : Below w.heap.size w W5 := hB4.grown hg5 hB4.size (fun k e => (World.ownsRow.lt hr4 k e).1)
      have hK5 := (KeepsOthers.of_grownBy hg5 (row_cells hr4)).same D _ hK4 rfl
      rw [HZ0.out.1] at hr5
      clear hc4
      gi_wp2
      refine ⟨by simp, .inl ⟨_, _, rfl, run_takeDeferred hK5, ?_⟩⟩
      refine ⟨_, results_tmp rfl _ _ _, v', rfl, hr5.kept (grownBy_putObj' _ D (.deferred none)) (row_ne hr5 hK5), hB5.trans (belowK_b (w := w) (Nat.le_refl _) _ D _ _ (by omega) hK5 rfl rfl)⟩
    case stop =>
      rintro D cd ys W hD hys h hK
      exact h.elim
  · have hr1 : (r == 0) = false := by simpa using hr
    have hr2 : (r != 0) = true := by simpa using hr
    have HR := Lib.hid (HN.out hr)
    clear hr HZ HN HST HP
    gi_wp2
    exact ⟨_, results_tmp rfl _ _ _, _, rfl, by rw [HR.out]; exact RowS.nil _ _, HW1.out⟩

end Go.Proofs.YtmokejjndkibhaaGreatDoor

namespace Go.Proofs.YtmokejjndkibhaaGreatDoor
open Go.RowKit Go.ChangeShapes Go.WideShapes Go.Deep Go.Joins
set_option linter.unusedVariables false
set_option linter.unusedSimpArgs false

theorem weights_all_mem {H : Type} {P : Program} {e : TypeId} : ∀ {ds : List (DataW H)} {d : DataW H}, d ∈ ds → ∀ n ∈ d.weights P e, n ∈ DataW.weightsAll P e ds
  | d0 :: ds, d, hd, n, hn => by
    simp only [DataW.weightsAll, List.mem_append]
    rcases List.mem_cons.1 hd with rfl | hd
    · exact .inl hn
    · exact .inr (weights_all_mem hd n hn)
  | [], _, hd, _, _ => by cases hd
theorem add_zero {a : Addr} {w : World} {v : Value} (h : w.cell? (a.add 0) = some v) : a = ⟨a.block, a.off, none⟩ := by
  obtain ⟨b, o, s⟩ := a
  have hs : s = none := World.cell?_spot (a := ⟨b, o, s⟩) (by simpa [Addr.add] using h)
  rw [hs]
theorem add_cell {a : Addr} {j : Nat} {w : World} {v : Value} (h : w.cell? (a.add j) = some v) : w.cell? ⟨a.block, a.off + j, none⟩ = some v := by
  by_cases h0 : j = 0
  · subst h0
    have h1 := add_zero h
    rw [h1] at h
    simpa [Addr.add] using h
  · unfold Addr.add at h
    rw [if_neg h0] at h
    exact h
theorem cells_at {w : World} {base : Nat} {a : Addr} {n : Nat} {cs : List Value} (h : w.cells? base a n = some cs) : ∀ j v, j < n → cs[j]? = some v → w.cell? (a.add j) = some v := by
  intro j v hj hv
  obtain ⟨_, _, hat⟩ := World.cells?_some h
  exact (hat j hj).trans hv

theorem exCells : Tryz.prog.cellsOf 25 = 5 := by kernel_rfl
theorem exBytes : Tryz.prog.bytesOf 25 = 64 := by kernel_rfl
theorem intCells : Tryz.prog.cellsOf 3 = 1 := by kernel_rfl
theorem strCells1 : Tryz.prog.cellsOf 9 = 1 := by kernel_rfl
theorem exsCells : Tryz.prog.cellsOf 23 = 1 := by kernel_rfl

set_option maxRecDepth 100000 in
set_option maxHeartbeats 1000000 in
theorem open_exT {H : Type} {enc : TypeId × Value → H} (W : World) (base : Nat) (sp : Nat → Bool) (hd : Bool) : ∀ (fuel : Nat) (cs : List Value) (x : DataW H × List MemPlace),
    DataW.trod enc Tryz.prog W base sp hd fuel 25 cs = some x → (∀ n ∈ x.1.weights Tryz.prog 25, n ≤ reachBytes) →
    ∃ r : XE, cs = ec r ∧ Ex.AtB (fun _ => True) W r.2.1 r.1 := by
  intro fuel
  induction fuel using Nat.strongRecOn with
  | _ fuel ih =>
    intro cs x h hw
    obtain ⟨xs, n, hn, rfl, hl, hlen, hf⟩ := DataW.trod_struct Tryz.underlying25 h
    rw [exCells] at hl
    match cs, hl, xs, hlen with
    | [c0, c1, c2, c3, c4], _, [y0, y1, y2, y3, y4], _ =>
      have h0 : DataW.trod enc Tryz.prog W base sp hd n 3 [c0] = some y0 := by simpa [intCells] using hf 0 _ rfl
      have h1 : DataW.trod enc Tryz.prog W base sp hd n 3 [c1] = some y1 := by simpa [intCells] using hf 1 _ rfl
      have h2 : DataW.trod enc Tryz.prog W base sp hd n 9 [c2] = some y2 := by simpa [strCells1] using hf 2 _ rfl
      have h3 : DataW.trod enc Tryz.prog W base sp hd n 3 [c3] = some y3 := by simpa [intCells] using hf 3 _ rfl
      have h4 : DataW.trod enc Tryz.prog W base sp hd n 23 [c4] = some y4 := by simpa [exsCells] using hf 4 _ rfl
      simp only [DataW.weights, Tryz.underlying25, List.map_cons, List.map_nil, DataW.weightsEach, List.mem_append] at hw
      obtain ⟨k, hk, rfl, wk⟩ := DataW.trod_int Tryz.underlying3 h0
      obtain ⟨o, ho, rfl, wo⟩ := DataW.trod_int Tryz.underlying3 h1
      obtain ⟨s, hs, rfl, ws⟩ := DataW.trod_string Tryz.underlying9 h2
      obtain ⟨v, hv, rfl, wv⟩ := DataW.trod_int Tryz.underlying3 h3
      cases hk; cases ho; cases hs; cases hv
      obtain ⟨nm, rfl⟩ := sB_of s
      rw [sB_data] at hw
      have hnm : nm.length ≤ reachBytes := hw _ (.inr (.inr (.inl (by simp [DataW.weights]))))
      have hnm : nm.length ≤ 140737488355328 := by unfold reachBytes at hnm; omega
      rcases DataW.trod_slice Tryz.underlying23 h4 with ⟨hc, rfl⟩ | ⟨a, len, cap, elems, rest, n', hn', hc, rfl, hb, hl, hm, hel, hat, _, _⟩
      · cases hc
        exact ⟨(.mk k o nm v [], none, 0), rfl, ⟨i64_bd wk, i64_bd wo, hnm, i64_bd wv, by simp [Ex.args]⟩, trivial⟩
      · cases hc
        have hwl : (elems.length + rest.length) * 64 ≤ reachBytes := by
          have := hw ((elems.length + rest.length) * Tryz.prog.bytesOf 25) (.inr (.inr (.inr (.inr (.inl (by simp [DataW.weights, Tryz.underlying23]))))))
          rwa [exBytes] at this
        have hlen : len ≤ 2199023255488 := by unfold reachBytes at hwl; omega
        have hE : ∀ i, i < len → ∃ r : XE, (∀ j u, (ec r)[j]? = some u → W.cell? (a.add (i * 5 + j)) = some u) ∧ Ex.AtB (fun _ => True) W r.2.1 r.1 := by
          intro i hi
          have hx := hat i hi
          rw [exCells, List.getElem?_eq_getElem (by omega)] at hx
          obtain ⟨cs', hcs, hx⟩ := Option.bind_eq_some_iff.1 hx
          obtain ⟨r, rfl, hr⟩ := ih n' (by omega) cs' _ hx (fun m hm => hw m (.inr (.inr (.inr (.inr (.inl (by
            simp only [DataW.weights, Tryz.underlying23, List.mem_cons, List.mem_append]
            exact .inr (.inl (weights_all_mem (List.mem_map.2 ⟨_, List.getElem_mem (by omega), rfl⟩) m hm)))))))))
          refine ⟨r, fun j u hu => ?_, hr⟩
          have hj : j < 5 := (List.getElem?_eq_some_iff.1 hu).1
          rw [← Go.Deep.add_add]
          exact cells_at hcs j u hj hu
        by_cases h0 : len = 0
        · subst h0
          exact ⟨(.mk k o nm v [], some a, cap), rfl, ⟨i64_bd wk, i64_bd wo, hnm, i64_bd wv, by simp [Ex.args]⟩, trivial⟩
        · haveI : Inhabited XE := ⟨(.mk 0 0 [] 0 [], none, 0)⟩
          obtain ⟨f, hf⟩ := choose_lt hE
          have ha : a = ⟨a.block, a.off, none⟩ := add_zero ((hf 0 (by omega)).1 0 _ rfl)
          have hll : ((List.range len).map fun i => (f i).1).length = len := by simp
          refine ⟨(.mk k o nm v ((List.range len).map fun i => (f i).1), some a, cap), by simp [ec, Ex.kind, Ex.op, Ex.name, Ex.value, Ex.args], ⟨i64_bd wk, i64_bd wo, hnm, i64_bd wv, by simpa [Ex.args] using hlen⟩, ?_⟩
          show Ex.AtBL _ W (some a) 0 _
          rw [ha]
          refine Ex.AtBL.of_get (fun _ => trivial) (fun j hj => ?_)
          have hj' : j < len := by rwa [hll] at hj
          obtain ⟨g1, g2⟩ := hf j hj'
          refine ⟨(f j).2.1, (f j).2.2, ?_, by simpa using g2⟩
          simp only [List.getElem_map, List.getElem_range, Nat.zero_add]
          exact ⟨add_cell (g1 0 _ rfl), add_cell (g1 1 _ rfl), add_cell (g1 2 _ rfl), add_cell (g1 3 _ rfl), add_cell (g1 4 _ rfl)⟩

set_option maxRecDepth 100000 in
/-- an expression that came in -/
theorem open_ex {H : Type} {enc : TypeId × Value → H} {r : Reach} {b0 : Nat} {W : World} {base : Nat} {sp : Nat → Bool} {hd : Bool} {v : Value} {d : DataW H} {ps : List MemPlace} (hval : Value.okWide Tryz.prog W r b0 25 v)
    (h : DataW.Trod enc Tryz.prog W base sp hd 25 v d ps) (hw : ∀ n ∈ d.weights Tryz.prog 25, n ≤ reachBytes) : ∃ (e : Ex) (p : Option Addr) (c : Nat), v = e.val p c ∧ Ex.At W p e := by
  obtain ⟨cs, rfl, hsz⟩ := okWide_struct Tryz.underlying25 hval
  obtain ⟨fuel, hf⟩ := h
  have hf' := hf
  obtain ⟨⟨e, p, c⟩, hc, hA⟩ := open_exT W base sp hd fuel _ _ hf hw
  refine ⟨e, p, c, ?_, hA.at⟩
  simp only [Value.cells, ec] at hc
  obtain ⟨l⟩ := cs
  simp only at hc
  subst hc
  rfl
end Go.Proofs.YtmokejjndkibhaaGreatDoor

