/- Lemmas and walks for the statements of this seat, part 3, merged from smaller texts: The reference's depth, long, Great.; The reference's Great; expr's measure, Size.; The reference's parts and Check.; Expressions with the addresses of their arguments; their parts in preorder.; visit and parts: the iterator over the parts of an expression.; parts, and Check.; Check.; The reference's Operate.; The reference's Operate.; The type and the value of an expression, plain.; Slices of integers (the part of XInts that knows no function).; Slices of integers of the call's own, to which it appends (the part of XApp that knows no function).; expr's typed.; The reference's typeOf.; Type, both.; What has a type has values in range.; expr's value.; expr's value: the walk.; The reference's eval.; Eval, both.; Expressions in blocks of a class; rows of expressions that a call owns.; slices.Clone of expressions; literals.; Literals.; The constant that an expression is; Fold's function.; mapped: the greatest parts that a function knows are replaced.; Fold of expr. -/
import Derived.RangeFuncNested
import Derived.RangeFuncBound
import Derived.RangeFuncCalls
import Derived.RangeFuncLeaves
import Derived.Shelf.Abstract
import Derived.OwnWalkIn
import Derived.TacticsInMore
import Derived.LoopNIn
import Derived.LoopIn
import Derived.Test.YtmokejjndkibhaaGreatDoorRows
import Derived.Lib.AppendStr
import Derived.Deep.OwnRows
import Derived.Lib.SmallJoins
import Derived.Maps.AppendAt
import Derived.OwnWalk
import Derived.Laws.OwnMore
import Derived.Lib.SliceRun
import Derived.Test.YtmokejjndkibhaaGreatDoorSh2
import Derived.Test.YtmokejjndkibhaaGreatDoorSh1

namespace Go.Proofs.YtmokejjndkibhaaGreatDoor
open Go.RowKit
set_option linter.unusedVariables false
set_option linter.unusedSimpArgs false
open Ex

mutual
/-- a name of more than 40 bytes -/
def Ex.long : Ex → Bool
  | .mk _ _ n _ es => decide (40 < n.length) || Ex.longs es
def Ex.longs : List Ex → Bool
  | [] => false
  | e :: es => e.long || Ex.longs es
end
set_option maxHeartbeats 1000000 in
theorem depth_any : ∀ (n : Nat) (e : Ex), e.size ≤ n → ∀ (p : Option Addr) (c : Nat) (w : World), Ex.At w p e → e.size ≤ 100 →
    Gives Tryz.prog 68 #[e.val p c] w (.int .i64 (e.height : Nat)) := by
  intro n
  induction n with
  | zero => intro e he; have := e.size_pos; omega
  | succ n ih =>
    intro e he p c w hA hm
    obtain ⟨k, o, nm, v, ts⟩ := e
    have HA := Lib.hid hA
    have hl : ts.length ≤ 2199023255488 := hA.fit.2.2.2.2
    have HS := Lib.hid (fun j (h : j < ts.length) => size_get ts j h)
    have hN : (Ex.mk k o nm v ts).size = 1 + sizes ts := rfl
    have hv : (Ex.mk k o nm v ts).val p c = .agg #[.int .i64 k, .int .i64 o, sV nm, .int .i64 v, .slice p ts.length c] := rfl
    rw [hv]
    have IH := Lib.hid ih
    clear hA hv ih
    have hh : (Ex.mk k o nm v ts).height = 1 + heights ts := rfl
    rw [hh]
    have hb : heights ts ≤ sizes ts := heights_le ts
    clear hh
    have HT := Lib.hid (heights_take ts)
    have HB := Lib.hid (fun j => Nat.le_trans (heights_le (ts.take j)) (sizes_mono ts j))
    unfold Gives
    go_enter Tryz.func68, Tryz.ntmps68
    go_wp2
    go_loopw [3, 4] (fun a i wr => ∃ (j : Nat), j ≤ ts.length ∧ a = .int .i64 (heights (ts.take j) : Nat) ∧ i = .int .i64 (j : Int) ∧ Ext (w.alloc (.cells #[.int .i64 k, .int .i64 o, sV nm, .int .i64 v, .slice p ts.length c] 25)) wr) (fun _ i _ => ts.length - (intOf i).toNat)
    case atStart => exact ⟨0, Nat.zero_le _, rfl, rfl, Below.refl _ _⟩
    case round =>
      obtain ⟨j, hj, rfl, rfl, hE⟩ := hrel
      obtain ⟨b0, b1, b2, b3, b4, hW⟩ := hE.box
      have HE := Lib.hid hE
      clear hE
      have hbj := HB.out j
      by_cases hlt : j < ts.length
      · obtain ⟨b, off, q, cc, rfl, hcs, hA0⟩ := HA.out.get j hlt
        obtain ⟨c0, c1, c2, c3, c4⟩ := hcs.below hW
        have hA := hA0.below hW
        clear hcs
        have hs := HS.out j hlt
        have ht := HT.out j hlt
        have C := IH.out (ts[j]) (by omega) q cc wr hA (by omega)
        have hle := height_le (ts[j])
        unfold Gives at C
        change Calls _ _ #[.agg #[.int .i64 (ts[j]).kind, .int .i64 (ts[j]).op, sV (ts[j]).name, .int .i64 (ts[j]).value, .slice q (ts[j]).args.length cc]] _ _ at C
        generalize (ts[j]).kind = k1 at *
        generalize (ts[j]).op = o1 at *
        generalize (ts[j]).name = n1 at *
        generalize (ts[j]).value = v1 at *
        generalize (ts[j]).args.length = l1 at *
        generalize (ts[j]).size = s1 at *
        generalize (ts[j]).height = g1 at *
        generalize heights (ts.take j) = g0 at *
        have HG := Lib.hid ht
        clear ht
        clear hA
        go_wp2_with fail
        refine C.mono ?_
        rintro e w2 ⟨rfl, hB2⟩
        by_cases hgt : g0 < g1
        · have hg := Lib.hid (show heights (ts.take (j + 1)) = g1 by have := HG.out; omega)
          go_wp2
          go_roundw
          case rel => exact ⟨j + 1, by omega, by rw [hg.out], by go_num, Ext.trans HE.out hB2⟩
          case measure => simp [intOf]; omega
        · have hg := Lib.hid (show heights (ts.take (j + 1)) = g0 by have := HG.out; omega)
          go_wp2
          go_roundw
          case rel => exact ⟨j + 1, by omega, by rw [hg.out], by go_num, Ext.trans HE.out hB2⟩
          case measure => simp [intOf]; omega
      · have hk : ts.take j = ts := List.take_of_length_le (by omega)
        have HZ := Lib.hid (show heights ts = heights (ts.take j) by rw [hk])
        clear hk
        generalize heights (ts.take j) = g0 at *
        go_wp2
        go_ret
        exact ⟨by rw [HZ.out]; go_num, hW⟩

end Go.Proofs.YtmokejjndkibhaaGreatDoor

namespace Go.Proofs.YtmokejjndkibhaaGreatDoor
open Go.RowKit
set_option linter.unusedVariables false
set_option linter.unusedSimpArgs false
open Ex

/-- a number in a block of its own -/
abbrev numO (m : Nat) : Obj := .cells #[.int .i64 (m : Int)] 3
theorem num_succ (m : Nat) : numO (m + 1) = .cells #[.int .i64 ((m : Int) + 1)] 3 := by unfold numO; rw [Int.natCast_add]; rfl

set_option maxHeartbeats 2000000 in
theorem measure_any (w0 : World) : ∀ (n : Nat) (e : Ex), e.size ≤ n → ∀ (p : Option Addr) (c m d g : Nat) (D : Int) (w : World), D = d → Ex.At w0 p e → Ext w0 w → w0.heap.size ≤ g → w.heap[g]? = some (numO m) → m ≤ 100 → 1 ≤ d → d ≤ m + 1 →
    Calls Tryz.prog 62 #[e.val p c, .int .i64 D, .pointer (some ⟨g, 0, none⟩)] w fun x w' => ∃ r m1 : Nat, x = .returned (.int .i64 (r : Int)) ∧ Turn g (numO m1) w w' ∧ m1 ≤ 101 ∧ r ≤ 101 ∧ (m + e.size ≤ 100 → m1 = m + e.size ∧ r + 1 = d + e.height) ∧ (100 < m + e.size → 100 < m1) := by
  intro n
  induction n with
  | zero => intro e he; have := e.size_pos; omega
  | succ n ih =>
    intro e he p c m d g D w hD hA hE0 hg hgm hm hd hdm
    subst hD
    obtain ⟨k, o, nm, v, ts⟩ := e
    have HA := Lib.hid hA
    have hl : ts.length ≤ 2199023255488 := hA.fit.2.2.2.2
    have HS := Lib.hid (fun j (h : j < ts.length) => size_get ts j h)
    have hN : (Ex.mk k o nm v ts).size = 1 + sizes ts := rfl
    have hv : (Ex.mk k o nm v ts).val p c = .agg #[.int .i64 k, .int .i64 o, sV nm, .int .i64 v, .slice p ts.length c] := rfl
    rw [hv]
    have IH := Lib.hid ih
    clear hA hv ih
    have hh : (Ex.mk k o nm v ts).height = 1 + heights ts := rfl
    rw [hh]
    clear hh
    have HT := Lib.hid (sizes_take ts)
    have HU := Lib.hid (heights_take ts)
    have HM := Lib.hid (sizes_mono ts)
    have hglt := lt_of_block hgm
    have hgc : w.cell? ⟨g, 0, none⟩ = some (.int .i64 (m : Int)) := cell_of hgm rfl
    have hgf : w.frozen? ⟨g, 0, none⟩ = false := free_of hgm
    have T0 := Lib.hid (Turn.refl hgm)
    have HE0 := Lib.hid hE0
    clear hgm hE0
    by_cases hmm : m = 100
    · subst hmm
      have HN2 : 100 < 100 + (1 + sizes ts) := by omega
      go_enter Tryz.func62, Tryz.ntmps62
      go_wp2
      go_ret
      exact ⟨d, 101, rfl, ((show Turn g (numO 101) w _ from T0.out.setCell (i := 0) (.int .i64 101)).alloc _), Nat.le_refl _, by omega, by omega, by omega⟩
    · have T1 := Lib.hid ((show Turn g (numO (m + 1)) w (w.setCell ⟨g, 0, none⟩ (.int .i64 ((m : Int) + 1))) by rw [num_succ]; exact T0.out.setCell (i := 0) (.int .i64 ((m : Int) + 1))).alloc (.cells #[.int .i64 k, .int .i64 o, sV nm, .int .i64 v, .slice p ts.length c] 25))
      go_enter Tryz.func62, Tryz.ntmps62
      go_wp2
      go_loopw [7, 28] (fun a i wr => ∃ (r m1 j : Nat), j ≤ ts.length ∧ a = .int .i64 (r : Int) ∧ i = .int .i64 (j : Int) ∧ Turn g (numO m1) w wr ∧ m1 ≤ 101 ∧ r ≤ 101 ∧ d ≤ m1 ∧ (m + 1 + sizes (ts.take j) ≤ 100 → m1 = m + 1 + sizes (ts.take j) ∧ r = d + heights (ts.take j)) ∧ (100 < m + 1 + sizes (ts.take j) → 100 < m1)) (fun _ i _ => ts.length - (intOf i).toNat)
      case atStart => exact ⟨d, m + 1, 0, Nat.zero_le _, rfl, rfl, T1.out, by omega, by omega, by omega, by simp [sizes, heights], by simp [sizes]⟩
      case round =>
        obtain ⟨r, m1, j, hj, rfl, rfl, hT, hm1, hr, hdm1, h1, h2⟩ := hrel
        have HT1 := Lib.hid hT
        have hcell : wr.cell? ⟨g, 0, none⟩ = some (.int .i64 (m1 : Int)) := cell_of hT.here rfl
        have hne : g < wr.heap.size := cell_lt' hcell
        have hW : Ext w0 wr := Below.trans HE0.out (hT.below hg (HE0.out.size)) 
        clear hT
        by_cases hlt : j < ts.length
        · obtain ⟨b, off, q, cc, rfl, hcs, hA0⟩ := HA.out.get j hlt
          obtain ⟨c0, c1, c2, c3, c4⟩ := hcs.below hW
          have hA := hA0.below hW
          clear hcs
          have hs := HS.out j hlt
          have ht := HT.out j hlt
          have hu := HU.out j hlt
          have hmo := HM.out (j + 1)
          by_cases h100 : 100 < m1
          · go_wp2
            go_ret
            exact ⟨r, m1, rfl, HT1.out.alloc _, hm1, hr, by omega, by omega⟩
          · have C := IH.out (ts[j]) (by omega) q cc m1 (d + 1) g ((d : Int) + 1)
            have C1 := Lib.hid (fun W h1 h2 => show Calls _ _ #[.agg #[.int .i64 (ts[j]).kind, .int .i64 (ts[j]).op, sV (ts[j]).name, .int .i64 (ts[j]).value, .slice q (ts[j]).args.length cc], _, _] _ _ from C W (by omega) hA0 h1 hg h2 (by omega) (by omega) (by omega))
            clear C hA hA0
            have HTA := Lib.hid (HT1.out.alloc (.cells #[.int .i64 (ts[j]).kind, .int .i64 (ts[j]).op, sV (ts[j]).name, .int .i64 (ts[j]).value, .slice q (ts[j]).args.length cc] 25))
            have HWA := Lib.hid (hW.alloc (Nat.le_trans HE0.out.size HT1.out.size) (.cells #[.int .i64 (ts[j]).kind, .int .i64 (ts[j]).op, sV (ts[j]).name, .int .i64 (ts[j]).value, .slice q (ts[j]).args.length cc] 25))
            clear hW
            generalize (ts[j]).kind = k1 at *
            generalize (ts[j]).op = o1 at *
            generalize (ts[j]).name = n1 at *
            generalize (ts[j]).value = v1 at *
            generalize (ts[j]).args.length = l1 at *
            generalize (ts[j]).size = s1 at *
            generalize (ts[j]).height = g1 at *
            go_wp2_with fail
            refine (C1.out _ HWA.out HTA.out.here).mono ?_
            rintro e w2 ⟨r2, m2, rfl, hT2, q1, q2, q3, q4⟩
            have HT2 := Lib.hid (HTA.out.trans hT2)
            clear hT2
            by_cases hgt : r < r2
            · skip
              go_wp2
              go_roundw
              case rel => exact ⟨r2, m2, j + 1, by omega, rfl, by go_num, HT2.out, q1, q2, by omega, by omega, by omega⟩
              case measure => simp [intOf]; omega
            · skip
              go_wp2
              go_roundw
              case rel => exact ⟨r, m2, j + 1, by omega, rfl, by go_num, HT2.out, q1, by omega, by omega, by omega, by omega⟩
              case measure => simp [intOf]; omega
        · have hk : ts.take j = ts := List.take_of_length_le (by omega)
          rw [hk] at h1 h2
          go_wp2
          go_ret
          exact ⟨r, m1, rfl, HT1.out, hm1, hr, by omega, by omega⟩

end Go.Proofs.YtmokejjndkibhaaGreatDoor

namespace Go.Proofs.YtmokejjndkibhaaGreatDoor
open Go.RowKit
set_option linter.unusedVariables false
set_option linter.unusedSimpArgs false
open Ex

mutual
/-- the first error of a part, in preorder -/
def Ex.fe : Ex → Int
  | .mk k o n v es => if pc' k o n v es.length ≠ 0 then pc' k o n v es.length else Ex.fes es
def Ex.fes : List Ex → Int
  | [] => 0
  | e :: es => if e.fe ≠ 0 then e.fe else Ex.fes es
end
theorem Ex.fes_no (es : List Ex) (j : Nat) (h : j < es.length) (h0 : fes (es.take j) = 0) (h1 : (es[j]).fe ≠ 0) : fes es = (es[j]).fe := by
  induction es generalizing j with
  | nil => simp at h
  | cons e es ih =>
    cases j with
    | zero => simp only [fes, List.getElem_cons_zero] at *; rw [if_pos h1]
    | succ j =>
      have h' : j < es.length := by simpa using h
      rw [List.take_succ_cons, fes] at h0
      by_cases e0 : e.fe = 0
      · rw [if_neg (by simp [e0])] at h0
        rw [fes, if_neg (by simp [e0])]
        simpa using ih j h' h0 (by simpa using h1)
      · rw [if_pos e0] at h0; exact absurd h0 e0
theorem Ex.fes_yes (es : List Ex) (j : Nat) (h : j < es.length) (h0 : fes (es.take j) = 0) (h1 : (es[j]).fe = 0) : fes (es.take (j + 1)) = 0 := by
  induction es generalizing j with
  | nil => simp at h
  | cons e es ih =>
    cases j with
    | zero => simp only [List.getElem_cons_zero] at h1; simp [fes, h1]
    | succ j =>
      have h' : j < es.length := by simpa using h
      rw [List.take_succ_cons, fes] at h0 ⊢
      by_cases e0 : e.fe = 0
      · rw [if_neg (by simp [e0])] at h0 ⊢
        exact ih j h' h0 (by simpa using h1)
      · rw [if_pos e0] at h0; exact absurd h0 e0
/-- why an expression is not valid -/
def Ex.chk (e : Ex) : Int := if 100 < e.size then 4 else if 12 < e.height then 22 else e.fe

set_option maxHeartbeats 1000000 in
theorem parts_any : ∀ (n : Nat) (e : Ex), e.size ≤ n → ∀ (p : Option Addr) (c : Nat) (w : World), Ex.At w p e →
    Gives Tryz.prog 69 #[e.val p c] w (.int .i64 e.fe) := by
  intro n
  induction n with
  | zero => intro e he; have := e.size_pos; omega
  | succ n ih =>
    intro e he p c w hA
    have P1 := Lib.hid (fun W => show Gives _ _ #[.agg #[.int .i64 e.kind, .int .i64 e.op, sV e.name, .int .i64 e.value, .slice p e.args.length c]] _ _ from part_any e p c W hA.fit)
    obtain ⟨k, o, nm, v, ts⟩ := e
    have HA := Lib.hid hA
    have hl : ts.length ≤ 2199023255488 := hA.fit.2.2.2.2
    have HS := Lib.hid (fun j (h : j < ts.length) => size_get ts j h)
    have hN : (Ex.mk k o nm v ts).size = 1 + sizes ts := rfl
    have hv : (Ex.mk k o nm v ts).val p c = .agg #[.int .i64 k, .int .i64 o, sV nm, .int .i64 v, .slice p ts.length c] := rfl
    rw [hv]
    have IH := Lib.hid ih
    clear hA hv ih
    have hh : (Ex.mk k o nm v ts).fe = if pc' k o nm v ts.length ≠ 0 then pc' k o nm v ts.length else fes ts := rfl
    have hpc : pc (Ex.mk k o nm v ts) = pc' k o nm v ts.length := rfl
    rw [hpc] at P1
    simp only [Ex.kind, Ex.op, Ex.name, Ex.value, Ex.args] at P1
    rw [hh]
    clear hh hpc
    have HT := Lib.hid (fes_yes ts)
    have HO := Lib.hid (fes_no ts)
    generalize pc' k o nm v ts.length = x at *
    unfold Gives
    by_cases hx : x = 0
    · subst hx
      have HZ := Lib.hid (show (if (0 : Int) ≠ 0 then 0 else fes ts) = fes ts by simp)
      rw [HZ.out]
      generalize hfs : fes ts = fs at *
      have HF := Lib.hid hfs
      clear hfs HZ
      go_enter Tryz.func69, Tryz.ntmps69
      go_wp2_with fail
      refine (P1.out _).mono ?_
      intro w1 hB1
      have HB1 := Lib.hid hB1
      clear hB1
      go_wp2
      go_loopw [4] (fun i wr => ∃ (j : Nat), j ≤ ts.length ∧ i = .int .i64 (j : Int) ∧ fes (ts.take j) = 0 ∧ Ext (w.alloc (.cells #[.int .i64 k, .int .i64 o, sV nm, .int .i64 v, .slice p ts.length c] 25)) wr) (fun i _ => ts.length - (intOf i).toNat)
      case atStart => exact ⟨0, Nat.zero_le _, rfl, rfl, HB1.out⟩
      case round =>
        obtain ⟨j, hj, rfl, hl0, hE⟩ := hrel
        obtain ⟨b0, b1, b2, b3, b4, hW⟩ := hE.box
        have HE := Lib.hid hE
        clear hE
        have HL := Lib.hid hl0
        clear hl0
        by_cases hlt : j < ts.length
        · obtain ⟨b, off, q, cc, rfl, hcs, hA0⟩ := HA.out.get j hlt
          obtain ⟨c0, c1, c2, c3, c4⟩ := hcs.below hW
          have hA := hA0.below hW
          clear hcs
          have hs := HS.out j hlt
          have C := IH.out (ts[j]) (by omega) q cc wr hA
          unfold Gives at C
          change Calls _ _ #[.agg #[.int .i64 (ts[j]).kind, .int .i64 (ts[j]).op, sV (ts[j]).name, .int .i64 (ts[j]).value, .slice q (ts[j]).args.length cc]] _ _ at C
          have HN := Lib.hid (HO.out j hlt HL.out)
          have HY := Lib.hid (HT.out j hlt HL.out)
          generalize (ts[j]).kind = k1 at *
          generalize (ts[j]).op = o1 at *
          generalize (ts[j]).name = n1 at *
          generalize (ts[j]).value = v1 at *
          generalize (ts[j]).args.length = l1 at *
          generalize (ts[j]).size = s1 at *
          generalize (ts[j]).fe = f1 at *
          clear hA
          by_cases hg : f1 = 0
          · have HY2 := Lib.hid (HY.out hg)
            subst hg
            go_wp2_with fail
            refine C.mono ?_
            rintro e w2 ⟨rfl, hB2⟩
            go_wp2
            go_roundw
            case rel => exact ⟨j + 1, by omega, by go_num, HY2.out, Ext.trans HE.out hB2⟩
            case measure => simp [intOf]; omega
          · have HN2 := Lib.hid (HN.out hg)
            have hga : (f1 == 0) = false := by rw [beq_eq_false_iff_ne]; omega
            have hgb : (f1 != 0) = true := by rw [bne_iff_ne]; omega
            go_wp2_with fail
            refine C.mono ?_
            rintro e w2 ⟨rfl, hB2⟩
            go_wp2
            go_ret
            exact ⟨by rw [HN2.out]; rfl, Ext.trans hW hB2⟩
        · have hk : ts.take j = ts := List.take_of_length_le (by omega)
          rw [hk] at HL
          go_wp2
          go_ret
          exact ⟨by rw [← HF.out, HL.out]; rfl, hW⟩
    · have HZ := Lib.hid (show (if x ≠ 0 then x else fes ts) = x by rw [if_pos hx])
      rw [HZ.out]
      clear HZ
      have hga : (x == 0) = false := by rw [beq_eq_false_iff_ne]; omega
      have hgb : (x != 0) = true := by rw [bne_iff_ne]; omega
      go_enter Tryz.func69, Tryz.ntmps69
      go_wp2_with fail
      refine (P1.out _).mono ?_
      intro w1 hB1
      go_wp2
      go_ret
      exact ⟨rfl, Ext.trans ((Below.refl _ w).alloc (Nat.le_refl _) _) hB1⟩

theorem refChk_any (e : Ex) (p : Option Addr) (c : Nat) (w : World) (hA : Ex.At w p e) : Gives Tryz.prog 38 #[e.val p c] w (.int .i64 e.chk) := by
  have C1 := Lib.hid (fun W (h : Ext w W) => show Gives _ _ #[.agg #[.int .i64 e.kind, .int .i64 e.op, sV e.name, .int .i64 e.value, .slice p e.args.length c]] _ _ from refSize_any e p c W (hA.below h))
  have C2 := Lib.hid (fun W (h : Ext w W) hs => show Gives _ _ #[.agg #[.int .i64 e.kind, .int .i64 e.op, sV e.name, .int .i64 e.value, .slice p e.args.length c]] _ _ from depth_any e.size e (Nat.le_refl _) p c W (hA.below h) hs)
  have C3 := Lib.hid (fun W (h : Ext w W) => show Gives _ _ #[.agg #[.int .i64 e.kind, .int .i64 e.op, sV e.name, .int .i64 e.value, .slice p e.args.length c]] _ _ from parts_any e.size e (Nat.le_refl _) p c W (hA.below h))
  have hh := Lib.hid (show e.chk = if 100 < e.size then 4 else if 12 < e.height then 22 else e.fe from rfl)
  have hle := height_le e
  unfold Ex.val
  generalize e.kind = k1 at *
  generalize e.op = o1 at *
  generalize e.name = n1 at *
  generalize e.value = v1 at *
  generalize e.args.length = l1 at *
  generalize e.size = s1 at *
  generalize e.height = g1 at *
  generalize e.fe = f1 at *
  generalize e.chk = r at *
  clear hA
  unfold Gives
  by_cases h1 : 100 < s1
  · have HZ := Lib.hid (show r = 4 by rw [hh.out, if_pos h1])
    have hm : min s1 101 = 101 := by omega
    rw [hm] at C1
    clear hm hh
    go_enter Tryz.func38, Tryz.ntmps38
    go_wp2_with fail
    refine (C1.out _ ((Below.refl _ w).alloc (Nat.le_refl _) _)).mono ?_
    intro w1 hB
    go_wp2
    go_ret
    exact ⟨by rw [HZ.out]; rfl, Ext.trans ((Below.refl _ w).alloc (Nat.le_refl _) _) hB⟩
  · have hm : min s1 101 = s1 := by omega
    rw [hm] at C1
    clear hm
    by_cases h2 : 12 < g1
    · have HZ := Lib.hid (show r = 22 by rw [hh.out, if_neg h1, if_pos h2])
      clear hh
      go_enter Tryz.func38, Tryz.ntmps38
      go_wp2_with fail
      refine (C1.out _ ((Below.refl _ w).alloc (Nat.le_refl _) _)).mono ?_
      intro w1 hB
      obtain ⟨b0, b1, b2, b3, b4, hW⟩ := Ext.box hB
      have HW := Lib.hid hW
      clear hB C1 hW
      go_wp2_with fail
      refine (C2.out _ HW.out (by omega)).mono ?_
      intro w2 hB
      go_wp2
      go_ret
      exact ⟨by rw [HZ.out]; rfl, Ext.trans HW.out hB⟩
    · have HZ := Lib.hid (show r = f1 by rw [hh.out, if_neg h1, if_neg h2])
      clear hh
      go_enter Tryz.func38, Tryz.ntmps38
      go_wp2_with fail
      refine (C1.out _ ((Below.refl _ w).alloc (Nat.le_refl _) _)).mono ?_
      intro w1 hB
      have HB := Lib.hid hB
      obtain ⟨b0, b1, b2, b3, b4, hW⟩ := Ext.box hB
      have HW := Lib.hid hW
      clear hB C1 hW
      go_wp2_with fail
      refine (C2.out _ HW.out (by omega)).mono ?_
      intro w2 hB
      obtain ⟨b0, b1, b2, b3, b4, hW⟩ := Ext.box (Ext.trans HB.out hB)
      have HW2 := Lib.hid hW
      clear hB C2 hW
      go_wp2_with fail
      refine (C3.out _ HW2.out).mono ?_
      intro w3 hB
      go_wp2
      go_ret
      exact ⟨by rw [HZ.out]; rfl, Ext.trans HW2.out hB⟩

end Go.Proofs.YtmokejjndkibhaaGreatDoor

namespace Go.Proofs.YtmokejjndkibhaaGreatDoor
open Go.RowKit
set_option linter.unusedVariables false
set_option linter.unusedSimpArgs false

inductive PEx where
  | mk (k o : Int) (n : List UInt8) (v : Int) (p : Option Addr) (c : Nat) (ts : List PEx)
namespace PEx
mutual
def er : PEx → Ex
  | .mk k o n v _ _ ts => .mk k o n v (ers ts)
def ers : List PEx → List Ex
  | [] => []
  | d :: ds => d.er :: ers ds
end
def ptr : PEx → Option Addr | .mk _ _ _ _ p _ _ => p
def cap : PEx → Nat | .mk _ _ _ _ _ c _ => c
def args : PEx → List PEx | .mk _ _ _ _ _ _ ts => ts
def val (d : PEx) : Value := d.er.val d.ptr d.cap
mutual
/-- the parts in preorder -/
def pre : PEx → List PEx
  | .mk k o n v p c ts => .mk k o n v p c ts :: pres ts
def pres : List PEx → List PEx
  | [] => []
  | d :: ds => d.pre ++ pres ds
end
theorem ers_length (ts : List PEx) : (ers ts).length = ts.length := by
  induction ts with
  | nil => rfl
  | cons d ts ih => simp [ers, ih]
theorem ers_get (ts : List PEx) (j : Nat) (h : j < ts.length) : (ers ts)[j]'(by rw [ers_length]; exact h) = (ts[j]).er := by
  induction ts generalizing j with
  | nil => simp at h
  | cons d ts ih => cases j with
    | zero => simp [ers]
    | succ j => simp only [ers, List.getElem_cons_succ]; exact ih j (by simpa using h)
theorem pres_snoc (ts : List PEx) (d : PEx) : pres (ts ++ [d]) = pres ts ++ d.pre := by
  induction ts with
  | nil => simp [pres]
  | cons x ts ih => simp only [List.cons_append, pres, ih, List.append_assoc]
theorem pres_take (ts : List PEx) (j : Nat) (h : j < ts.length) : pres (ts.take (j + 1)) = pres (ts.take j) ++ (ts[j]).pre := by
  rw [List.take_succ_eq_append_getElem h, pres_snoc]
theorem pres_prefix (ts : List PEx) (j : Nat) : pres (ts.take j) <+: pres ts := by
  induction ts generalizing j with
  | nil => simp
  | cons d ts ih => cases j with
    | zero => simp [pres]
    | succ j => simp only [List.take_succ_cons, pres]; obtain ⟨r, hr⟩ := ih j; exact ⟨r, by rw [List.append_assoc, hr]⟩
mutual
/-- the arguments lie where d says, in blocks below n₀ -/
def PAt (n₀ : Nat) (w : World) : PEx → Prop
  | .mk k o n v p c ts => Ex.fits (.mk k o n v (ers ts)) ∧ PAtL n₀ w p 0 ts
def PAtL (n₀ : Nat) (w : World) (p : Option Addr) (i : Nat) : List PEx → Prop
  | [] => True
  | d :: ds => (∃ b o, p = some ⟨b, o, none⟩ ∧ b < n₀ ∧ Ex.cells w b (o + i * 5) d.er d.ptr d.cap ∧ PAt n₀ w d) ∧ PAtL n₀ w p (i + 1) ds
end
theorem PAt.fit {n₀ : Nat} {w : World} {d : PEx} (h : PAt n₀ w d) : Ex.fits d.er := by cases d; exact h.1
theorem PAtL.get {n₀ : Nat} {w : World} {p : Option Addr} {ts : List PEx} : ∀ {i : Nat}, PAtL n₀ w p i ts → ∀ j (h : j < ts.length), ∃ b o, p = some ⟨b, o, none⟩ ∧ b < n₀ ∧ Ex.cells w b (o + (i + j) * 5) (ts[j]).er (ts[j]).ptr (ts[j]).cap ∧ PAt n₀ w ts[j] := by
  induction ts with
  | nil => intro i h j hj; simp at hj
  | cons d ts ih =>
    intro i h j hj
    obtain ⟨h1, h2⟩ := h
    cases j with
    | zero => exact h1
    | succ j =>
      obtain ⟨b, o, e1, e2, e3, e4⟩ := ih h2 j (by simpa using hj)
      exact ⟨b, o, e1, e2, by rw [show i + (j + 1) = i + 1 + j by omega]; exact e3, e4⟩
theorem cells_low {n₀ : Nat} {w W : World} {b o : Nat} {e : Ex} {p : Option Addr} {c : Nat} (h : Ex.cells w b o e p c) (hb : b < n₀) (hB : Below n₀ w W) : Ex.cells W b o e p c := by
  obtain ⟨h0, h1, h2, h3, h4⟩ := h
  exact ⟨(hB.cell (p := ⟨b, o, none⟩) hb).trans h0, (hB.cell (p := ⟨b, o + 1, none⟩) hb).trans h1, (hB.cell (p := ⟨b, o + 2, none⟩) hb).trans h2, (hB.cell (p := ⟨b, o + 3, none⟩) hb).trans h3, (hB.cell (p := ⟨b, o + 4, none⟩) hb).trans h4⟩
mutual
theorem PAt.low {n₀ : Nat} {w W : World} (hB : Below n₀ w W) : ∀ {d : PEx}, PAt n₀ w d → PAt n₀ W d
  | .mk _ _ _ _ _ _ _, h => ⟨h.1, PAtL.low hB h.2⟩
theorem PAtL.low {n₀ : Nat} {w W : World} (hB : Below n₀ w W) : ∀ {p : Option Addr} {i : Nat} {ts : List PEx}, PAtL n₀ w p i ts → PAtL n₀ W p i ts
  | _, _, [], _ => trivial
  | _, _, _ :: _, ⟨⟨b, o, e1, e2, e3, e4⟩, h2⟩ => ⟨⟨b, o, e1, e2, cells_low e3 e2 hB, PAt.low hB e4⟩, PAtL.low hB h2⟩
end
mutual
theorem of_at {w : World} : ∀ {e : Ex} {p : Option Addr} (c : Nat), Ex.At w p e → ∃ d : PEx, d.er = e ∧ d.ptr = p ∧ d.cap = c ∧ PAt w.heap.size w d
  | .mk k o n v ts, p, c, h => by
    obtain ⟨ds, h1, h2⟩ := of_atL h.2
    exact ⟨.mk k o n v p c ds, by simp [er, h1], rfl, rfl, by simp only [PAt, h1]; exact h.1, h2⟩
theorem of_atL {w : World} : ∀ {ts : List Ex} {p : Option Addr} {i : Nat}, Ex.AtL w p i ts → ∃ ds : List PEx, ers ds = ts ∧ PAtL w.heap.size w p i ds
  | [], _, _, _ => ⟨[], rfl, trivial⟩
  | t :: ts, p, i, ⟨⟨b, o, q, c, e1, e2, e3⟩, h2⟩ => by
    obtain ⟨d, hd1, hd2, hd3, hd4⟩ := of_at c e3
    obtain ⟨ds, hs1, hs2⟩ := of_atL h2
    exact ⟨d :: ds, by simp [ers, hd1, hs1], ⟨b, o, e1, Ex.cell_lt' e2.1, by rw [hd1, hd2, hd3]; exact e2, hd4⟩, hs2⟩
end
/-- the first error among parts -/
def ferr : List PEx → Int
  | [] => 0
  | d :: ds => if pc d.er ≠ 0 then pc d.er else ferr ds
theorem ferr_app (a b : List PEx) : ferr (a ++ b) = if ferr a ≠ 0 then ferr a else ferr b := by
  induction a with
  | nil => simp [ferr]
  | cons d a ih =>
    simp only [List.cons_append, ferr, ih]
    by_cases h : pc d.er = 0 <;> simp [h]
mutual
theorem ferr_pre : ∀ d : PEx, ferr d.pre = d.er.fe
  | .mk k o n v p c ts => by
    simp only [pre, ferr, er, Ex.fe, ferr_pres ts]
    simp only [pc, Ex.kind, Ex.op, Ex.name, Ex.value, Ex.args]
    rfl
theorem ferr_pres : ∀ ts : List PEx, ferr (pres ts) = Ex.fes (ers ts)
  | [] => rfl
  | d :: ds => by simp only [pres, ferr_app, ers, Ex.fes, ferr_pre d, ferr_pres ds]
end
end PEx

end Go.Proofs.YtmokejjndkibhaaGreatDoor

namespace Go.Proofs.YtmokejjndkibhaaGreatDoor
open Go.RowKit
set_option linter.unusedVariables false
set_option linter.unusedSimpArgs false
attribute [local go_sem] Oper.semAt_some

/-- blocks of cells of type T stay -/
def KeepT (T : TypeId) (W W' : World) : Prop := W.heap.size ≤ W'.heap.size ∧ ∀ (j : Nat) (c : Array Value) (f : Nat × Nat), W.heap[j]? = some (.cells c T f) → W'.heap[j]? = some (.cells c T f)
theorem KeepT.refl (T : TypeId) (W : World) : KeepT T W W := ⟨Nat.le_refl _, fun _ _ _ h => h⟩
theorem KeepT.trans {T : TypeId} {a b c : World} (h : KeepT T a b) (g : KeepT T b c) : KeepT T a c := ⟨Nat.le_trans h.1 g.1, fun j x f hx => g.2 j x f (h.2 j x f hx)⟩
theorem KeepT.of_ext {T : TypeId} {W W' : World} (h : Ext W W') : KeepT T W W' := ⟨h.size, fun j c f hx => (h.below.block j (lt_of_block hx)).trans hx⟩
/-- what the iterator asks of a round -/
def Kx (n₀ : Nat) (W W' : World) : Prop := Below n₀ W W' ∧ KeepT tEx W W'
theorem Kx.refl (n₀ : Nat) (W : World) : Kx n₀ W W := ⟨Below.refl _ _, KeepT.refl _ _⟩
theorem Kx.trans {n₀ : Nat} {a b c : World} (h : Kx n₀ a b) (g : Kx n₀ b c) : Kx n₀ a c := ⟨h.1.trans g.1, h.2.trans g.2⟩
theorem Kx.of_ext {n₀ : Nat} {W W' : World} (h : Ext W W') (hn : n₀ ≤ W.heap.size) : Kx n₀ W W' := ⟨h.below.mono hn, KeepT.of_ext h⟩
theorem Kx.putObj {n₀ : Nat} {w : World} (hn : n₀ ≤ w.heap.size) (W : World) (l : Nat) (o o' : Obj) (hl : w.heap.size ≤ l) (h : W.heap[l]? = some o) (h1 : o.isCells = false) (h2 : o.isWalk = false) : Kx n₀ W (W.putObj l o') := by
  refine ⟨belowK_b hn W l o o' hl h h1 h2, by simp, fun j c f hx => ?_⟩
  have hne : j ≠ l := by
    rintro rfl
    rw [h] at hx; cases hx; cases h1
  exact (World.putObj_heap_other hne).trans hx
theorem abides_alloc {β : Type} {B : Nat} {J : β → World → Prop} (hJ : AbidesFrom B J) {s : β} {W : World} (o : Obj) (h : J s W) : J s (W.alloc o) := hJ s W _ none h (World.grownBy_alloc W o none) (fun r e => by cases e)
theorem YieldAt.any {F : Fence} (hd : F.depth = none) {m : Nat} (m' : Nat) {P : Program} {l : Nat} {args : Array Value} {W : World} {R : Ending → World → Prop} (h : YieldAt F m P l args W R) : YieldAt F m' P l args W R := by
  obtain ⟨fn, tmps, assign, body, hy, hR⟩ := h
  exact ⟨fn, tmps, assign, body, hy, hR.1, fun c cs _ => hR.2 c cs (fun d h => by rw [hd] at h; cases h)⟩

set_option maxRecDepth 100000 in
set_option maxHeartbeats 4000000 in
theorem visit_in (F : Fence) (hd : F.depth = none) (hv : F.fn 88) (hro : F.round = none) (l n₀ N A : Nat) (J Jx : List PEx → World → Prop) (hJ : AbidesFrom A J)
    (hY : ∀ m pre x W, J pre W → pre.length < N → Ex.fits x.er → YieldAt F m Tryz.prog l #[x.val] W fun e W' =>
      (e = .returned (.bool true) ∧ J (pre ++ [x]) W' ∧ Kx n₀ W W') ∨ (e = .returned (.bool false) ∧ Jx (pre ++ [x]) W')) :
    ∀ (s : Nat) (d : PEx), d.er.size ≤ s → ∀ (n : Nat) (pre : List PEx) (W : World), PEx.PAt n₀ W d → J pre W → n₀ ≤ W.heap.size → pre.length + d.pre.length ≤ N →
      CallsIn F n Tryz.prog 88 #[d.val, .func (.yield l) #[] #[]] W fun e W' =>
        (e = .returned (.bool true) ∧ J (pre ++ d.pre) W' ∧ Kx n₀ W W') ∨ (e = .returned (.bool false) ∧ ∃ q, q <+: d.pre ∧ Jx (pre ++ q) W') := by
  intro s
  induction s with
  | zero => intro d hs; have := d.er.size_pos; omega
  | succ s ih =>
    intro d hs n pre W hP hJ0 hn0 hN
    have hdd : ∀ k : Nat, (F.depth.isSome = true → 1 ≤ k) := fun k h => by rw [hd] at h; cases h
    have hfit := hP.fit
    have hyd := hY (n - 1) pre d
    obtain ⟨k, o, nm, v, p, c, ts⟩ := d
    have hl : ts.length ≤ 2199023255488 := by have := hfit.2.2.2.2; simpa [PEx.er, Ex.args, PEx.ers_length] using this
    have hval : (PEx.mk k o nm v p c ts).val = .agg #[.int .i64 k, .int .i64 o, sV nm, .int .i64 v, .slice p ts.length c] := by
      simp only [PEx.val, PEx.er, PEx.ptr, PEx.cap, Ex.val, Ex.kind, Ex.op, Ex.name, Ex.value, Ex.args, PEx.ers_length]
    rw [hval] at hyd ⊢
    have HP := Lib.hid hP.2
    have HS := Lib.hid (show Ex.sizes (PEx.ers ts) ≤ s by simp only [PEx.er, Ex.size] at hs; omega)
    have HN := Lib.hid hN
    have hJa := abides_alloc hJ (.cells #[.int .i64 k, .int .i64 o, sV nm, .int .i64 v, .slice p ts.length c] 25) hJ0
    have hb0 : (W.alloc (.cells #[.int .i64 k, .int .i64 o, sV nm, .int .i64 v, .slice p ts.length c] 25)).heap[W.heap.size]? = some (.cells #[.int .i64 k, .int .i64 o, sV nm, .int .i64 v, .slice p ts.length c] 25 (0, 0)) := alloc_here _ _
    have HB0 := Lib.hid hb0
    clear hb0
    obtain ⟨fn, tmps, assign, body, hy, hR⟩ := hyd _ hJa (by simp only [PEx.pre, List.length_cons] at hN; omega) hfit
    clear hP hs hN hval hfit hyd hJ0
    refine callsIn_of_wp Tryz.func88 rfl hv ?_ hro
    simp only [Tryz.ntmps88, List.size_toArray, List.length_cons, List.length_nil, Nat.reduceAdd, Nat.reduceSub, Array.replicate_succ, Array.replicate_zero, List.push_toArray, List.append_toArray, List.nil_append, List.cons_append]
    gi_wp2
    refine hR.mono ?_
    clear hR hy
    rintro e W2 (⟨rfl, hJ2, hK2⟩ | ⟨rfl, hJx2⟩)
    · have hb2 : W2.heap[W.heap.size]? = some (.cells #[.int .i64 k, .int .i64 o, sV nm, .int .i64 v, .slice p ts.length c] 25 (0, 0)) := hK2.2.2 _ _ _ HB0.out
      have c4 : W2.cell? ⟨W.heap.size, 4, none⟩ = some (.slice p ts.length c) := cell_of hb2 rfl
      have HK2 := Lib.hid (show Kx n₀ W W2 from (Kx.of_ext ((Below.refl _ W).alloc (Nat.le_refl _) _) hn0).trans hK2)
      have HJ2 := Lib.hid hJ2
      clear hb2 hK2 hJ2 hJa HB0
      gi_wp2
      gi_loopw [14] (fun i wr => ∃ j : Nat, j ≤ ts.length ∧ i = .int .i64 (j : Int) ∧ J (pre ++ (.mk k o nm v p c ts :: PEx.pres (ts.take j))) wr ∧ Kx n₀ W wr) (fun i _ => ts.length - (intOf i).toNat)
      case atStart => exact ⟨0, Nat.zero_le _, rfl, by simpa [PEx.pres] using HJ2.out, HK2.out⟩
      case round =>
        obtain ⟨j, hj, rfl, hJr, hKr⟩ := hrel
        have HKr := Lib.hid hKr
        have HJr := Lib.hid hJr
        by_cases hlt : j < ts.length
        · obtain ⟨b, off, rfl, hb, hcs, hPa⟩ := (PEx.PAtL.low hKr.1 HP.out).get j hlt
          rw [Nat.zero_add] at hcs
          obtain ⟨c0, c1, c2, c3, c4⟩ := hcs
          have hnw : n₀ ≤ wr.heap.size := Nat.le_trans hn0 hKr.2.1
          have hsz : (ts[j]).er.size ≤ s := by
            have h1 := Ex.size_get (PEx.ers ts) j (by rw [PEx.ers_length]; exact hlt)
            rw [PEx.ers_get ts j hlt] at h1
            exact Nat.le_trans h1 HS.out
          have hlen : (pre ++ (PEx.mk k o nm v (some ⟨b, off, none⟩) c ts :: PEx.pres (ts.take j))).length + (ts[j]).pre.length ≤ N := by
            have h1 := HN.out
            have h2 := (PEx.pres_prefix ts (j + 1)).length_le
            rw [PEx.pres_take ts j hlt] at h2
            simp only [PEx.pre, List.length_cons, List.length_append] at h1 h2 ⊢
            omega
          have C := ih (ts[j]) hsz (n - 1) _ (wr.alloc (.cells #[.int .i64 (ts[j]).er.kind, .int .i64 (ts[j]).er.op, sV (ts[j]).er.name, .int .i64 (ts[j]).er.value, .slice (ts[j]).ptr (ts[j]).er.args.length (ts[j]).cap] 25))
            (hPa.low (((Below.refl _ wr).alloc (Nat.le_refl _) _).mono hnw)) (abides_alloc hJ _ hJr) (by simp; omega) hlen
          change CallsIn F (n - 1) _ _ #[.agg #[.int .i64 (ts[j]).er.kind, .int .i64 (ts[j]).er.op, sV (ts[j]).er.name, .int .i64 (ts[j]).er.value, .slice (ts[j]).ptr (ts[j]).er.args.length (ts[j]).cap], _] _ _ at C
          have HT := Lib.hid (PEx.pres_take ts j hlt)
          have HPr := Lib.hid (PEx.pres_prefix ts (j + 1))
          have HK4 := Lib.hid (Kx.of_ext ((Below.refl _ wr).alloc (Nat.le_refl _) (.cells #[.int .i64 (ts[j]).er.kind, .int .i64 (ts[j]).er.op, sV (ts[j]).er.name, .int .i64 (ts[j]).er.value, .slice (ts[j]).ptr (ts[j]).er.args.length (ts[j]).cap] 25)) hnw)
          rw [HT.out] at HPr
          generalize (ts[j]).er.kind = k1 at *
          generalize (ts[j]).er.op = o1 at *
          generalize (ts[j]).er.name = n1 at *
          generalize (ts[j]).er.value = v1 at *
          generalize (ts[j]).er.args.length = l1 at *
          generalize (ts[j]).ptr = q1 at *
          generalize (ts[j]).cap = cc at *
          generalize (ts[j]).pre = P1 at *
          clear hPa hlen hJr hKr HP HJ2 HK2 ih
          gi_wp2_with ((try refine ⟨hdd _, ?_⟩); gi_at_call 88; refine C.mono ?_; clear C; rintro e W3 (⟨rfl, hJ3, hK3⟩ | ⟨rfl, q, hq, hx3⟩))
          · go_roundw
            case rel => exact ⟨j + 1, by omega, by go_num, by rw [HT.out]; simpa [List.append_assoc] using hJ3, HKr.out.trans (HK4.out.trans hK3)⟩
            case measure => simp [intOf]; omega
          · go_ret
            obtain ⟨r, hr⟩ := hq
            obtain ⟨r2, hr2⟩ := HPr.out
            exact .inr ⟨rfl, .mk k o nm v (some ⟨b, off, none⟩) c ts :: (PEx.pres (ts.take j) ++ q), ⟨r ++ r2, by rw [← hr] at hr2; simp only [PEx.pre, ← hr2]; simp [List.append_assoc]⟩, by simpa [List.append_assoc] using hx3⟩
        · have hk : ts.take j = ts := List.take_of_length_le (by omega)
          rw [hk] at HJr
          clear hk hJr hKr
          gi_wp2
          go_ret
          exact .inl ⟨rfl, HJr.out, HKr.out⟩
    · clear hJa
      gi_wp2
      go_ret
      exact .inr ⟨rfl, [.mk k o nm v p c ts], ⟨PEx.pres ts, rfl⟩, hJx2⟩

end Go.Proofs.YtmokejjndkibhaaGreatDoor

namespace Go.Proofs.YtmokejjndkibhaaGreatDoor
open Go.RowKit
set_option linter.unusedVariables false
set_option linter.unusedSimpArgs false
attribute [local go_sem] Oper.semAt_some

abbrev Pt := { d : PEx // Ex.fits d.er }
theorem parts1_in (F : Fence) (hd : F.depth = none) (n : Nat) (hp : F.fn 87) (hv : F.fn 88) (hro : F.round = none) (l B n₀ A : Nat) (d : PEx) (J Jx : List PEx → World → Prop) (hJ : AbidesFrom A J)
    (hY : ∀ m pre x W, J pre W → pre.length < d.pre.length → Ex.fits x.er → YieldAt F m Tryz.prog l #[x.val] W fun e W' =>
      (e = .returned (.bool true) ∧ J (pre ++ [x]) W' ∧ Kx n₀ W W') ∨ (e = .returned (.bool false) ∧ Jx (pre ++ [x]) W'))
    (W : World) (hc : W.heap[B]? = some (.cells (exC d.er.kind d.er.op d.er.name d.er.value d.ptr d.er.args.length d.cap) tEx (0, 0))) (hP : PEx.PAt n₀ W d) (hn : n₀ ≤ W.heap.size) (h0 : J [] W) :
    CallsIn F n Tryz.prog 87 #[.func (.yield l) #[] #[], .pointer (some ⟨B, 0, none⟩)] W fun e W' => (∃ v, e = .returned v) ∧ (J d.pre W' ∨ ∃ q, q <+: d.pre ∧ Jx q W') := by
  have hdd : ∀ k : Nat, (F.depth.isSome = true → 1 ≤ k) := fun k h => by rw [hd] at h; cases h
  have C := visit_in F hd hv hro l n₀ d.pre.length A J Jx hJ hY d.er.size d (Nat.le_refl _) (n - 1) [] W hP h0 hn (by simp)
  change CallsIn F (n - 1) _ _ #[.agg #[.int .i64 d.er.kind, .int .i64 d.er.op, sV d.er.name, .int .i64 d.er.value, .slice d.ptr d.er.args.length d.cap], _] _ _ at C
  generalize d.er.kind = k1 at *
  generalize d.er.op = o1 at *
  generalize d.er.name = n1 at *
  generalize d.er.value = v1 at *
  generalize d.er.args.length = l1 at *
  generalize d.ptr = q1 at *
  generalize d.cap = cc at *
  generalize d.pre = P1 at *
  have b0 : W.cell? ⟨B, 0, none⟩ = some (.int .i64 k1) := cell_of hc rfl
  have b1 : W.cell? ⟨B, 1, none⟩ = some (.int .i64 o1) := cell_of hc rfl
  have b2 : W.cell? ⟨B, 2, none⟩ = some (sV n1) := cell_of hc rfl
  have b3 : W.cell? ⟨B, 3, none⟩ = some (.int .i64 v1) := cell_of hc rfl
  have b4 : W.cell? ⟨B, 4, none⟩ = some (.slice q1 l1 cc) := cell_of hc rfl
  clear hc hP hY
  refine callsIn_of_wp Tryz.func87 rfl hp ?_ hro
  simp only [Tryz.ntmps87, List.size_toArray, List.length_cons, List.length_nil, Nat.reduceAdd, Nat.reduceSub, Array.replicate_succ, Array.replicate_zero, List.push_toArray, List.append_toArray, List.nil_append, List.cons_append]
  gi_wp2_with ((try refine ⟨hdd _, ?_⟩); gi_at_call 88; refine C.mono ?_; clear C; rintro e W1 (⟨rfl, hJ1, _⟩ | ⟨rfl, q, hq, hx⟩))
  · go_end0
    exact ⟨⟨_, rfl⟩, .inl (by simpa using hJ1)⟩
  · go_end0
    exact ⟨⟨_, rfl⟩, .inr ⟨q, hq, by simpa using hx⟩⟩

theorem parts_stops (F : Fence) (hd : F.depth = none) (n : Nat) (hp : F.fn 87) (hv : F.fn 88) (hro : F.round = none) (B n₀ : Nat) (d : PEx) (w : World) (hn : n₀ ≤ w.heap.size)
    (hc : w.heap[B]? = some (.cells (exC d.er.kind d.er.op d.er.name d.er.value d.ptr d.er.args.length d.cap) tEx (0, 0))) (hP : PEx.PAt n₀ w d) :
    SeqStopsK F n Tryz.prog 87 #[.pointer (some ⟨B, 0, none⟩)] (fun x : Pt => #[x.1.val]) (Kx n₀) (fun ys => ys.map (·.1) = d.pre) (fun ys => ys.map (·.1) <+: d.pre) d.pre.length w := by
  intro l J Jx W hW hJ hJx hY h0
  have hJ' : AbidesFrom W.heap.size (fun (pre : List PEx) W => ∃ ys : List Pt, ys.map (·.1) = pre ∧ J ys W) := fun s X Y row ⟨ys, h1, h2⟩ hg hr => ⟨ys, h1, hJ ys X Y row h2 hg hr⟩
  have C := parts1_in F hd n hp hv hro l B n₀ W.heap.size d (fun (pre : List PEx) W => ∃ ys : List Pt, ys.map (·.1) = pre ∧ J ys W) (fun (pre : List PEx) W => ∃ ys : List Pt, ys.map (·.1) = pre ∧ Jx ys W) hJ'
    (fun m pre x W1 ⟨ys, h1, h2⟩ hlen hx => YieldAt.any hd m (YieldAt.mono (hY ys ⟨x, hx⟩ W1 h2 (by rw [← h1] at hlen; simpa using hlen)) fun e W' h => h.elim
      (fun ⟨a, b, c⟩ => .inl ⟨a, ⟨ys ++ [⟨x, hx⟩], by simp [h1], b⟩, c⟩) (fun ⟨a, b⟩ => .inr ⟨a, ⟨ys ++ [⟨x, hx⟩], by simp [h1], b⟩⟩)))
    W ((hW.block B (lt_of_block hc)).trans hc) (hP.low (hW.mono hn)) (Nat.le_trans hn hW.size) ⟨[], rfl, h0⟩
  refine C.mono ?_
  rintro e W' ⟨hv', ⟨ys, h1, h2⟩ | ⟨q, hq, ys, h1, h2⟩⟩
  · exact ⟨hv', .inl ⟨ys, h1, h2⟩⟩
  · exact ⟨hv', .inr ⟨ys, by show ys.map (·.1) <+: d.pre; rw [h1]; exact hq, h2⟩⟩

theorem xparts_any (k o : Int) (nm : List UInt8) (v : Int) (p : Option Addr) (m c : Nat) (w : World) : Calls Tryz.prog 56 #[.agg #[.int .i64 k, .int .i64 o, sV nm, .int .i64 v, .slice p m c]] w fun e W =>
    ∃ B, e = .returned (.func (.func 87) #[] #[.pointer (some ⟨B, 0, none⟩)]) ∧ W.heap[B]? = some (.cells (exC k o nm v p m c) tEx (0, 0)) ∧ Ext w W := by
  go_enter Tryz.func56, Tryz.ntmps56
  go_wp2
  go_ret
  exact ⟨_, rfl, alloc_here _ _, (Below.refl _ w).alloc (Nat.le_refl _) _⟩

end Go.Proofs.YtmokejjndkibhaaGreatDoor

namespace Go.Proofs.YtmokejjndkibhaaGreatDoor
open Go.RowKit
set_option linter.unusedVariables false
set_option linter.unusedSimpArgs false
attribute [local go_sem] Oper.semAt_some

theorem cells_own {X Y : World} {row : Option Nat} {B : Nat} {c : Array Value} {t : TypeId} {f : Nat × Nat} (h : X.heap[B]? = some (.cells c t f)) (hg : X.grownBy Y row) (hr : ∀ r, row = some r → ∃ o : Obj, X.heap[r]? = some o ∧ o.isCells = false) : Y.heap[B]? = some (.cells c t f) :=
  (hg.block B (lt_of_block h) (fun e => by obtain ⟨o, ho, hc⟩ := hr B e.symm; rw [h] at ho; cases ho; cases hc)).trans h
theorem keepsFrom_ext {B : Nat} {W W' : World} (h : Below W.heap.size W W') : KeepsFrom B W W' := ⟨h.size, fun i o _ hi _ => (h.block i (lt_of_block hi)).trans hi⟩

set_option maxRecDepth 100000 in
set_option maxHeartbeats 4000000 in
theorem Check_any (e : Ex) (p : Option Addr) (c : Nat) (w : World) (hA : Ex.At w p e) : Gives Tryz.prog 36 #[e.val p c] w (.int .i64 e.chk) := by
  have C := Lib.hid (fun W g h1 h2 h3 => show Calls _ _ #[.agg #[.int .i64 e.kind, .int .i64 e.op, sV e.name, .int .i64 e.value, .slice p e.args.length c], _, _] _ _ from measure_any w e.size e (Nat.le_refl _) p c 0 1 g 1 W rfl hA h1 h2 h3 (by omega) (by omega) (by omega))
  obtain ⟨d, hd1, hd2, hd3, hP⟩ := PEx.of_at c hA
  have HC := Lib.hid (show e.chk = if 100 < e.size then 4 else if 12 < e.height then 22 else PEx.ferr d.pre by rw [PEx.ferr_pre, hd1]; rfl)
  have HST := Lib.hid (fun n B W h1 h2 h3 => show SeqStopsK Fence.wide n Tryz.prog 87 #[.pointer (some ⟨B, 0, none⟩)] (fun x : Pt => #[x.1.val]) (Kx w.heap.size) (fun ys => ys.map (·.1) = d.pre) (fun ys => ys.map (·.1) <+: d.pre) d.pre.length W from
    parts_stops Fence.wide rfl n trivial trivial rfl B w.heap.size d W h1 h2 h3)
  rw [hd2, hd3, hd1] at HST
  have HP := Lib.hid hP
  have hle := Ex.height_le e
  unfold Gives Ex.val
  generalize e.height = g1 at *
  generalize e.size = s1 at *
  generalize e.chk = r at *
  clear hd1 hP
  generalize e.kind = k1 at *
  generalize e.op = o1 at *
  generalize e.name = n1 at *
  generalize e.value = v1 at *
  generalize e.args.length = l1 at *
  obtain ⟨B, hB⟩ : ∃ B, B = w.heap.size := ⟨_, rfl⟩
  have HA2 := Lib.hid (show Ext w (((w.alloc (.cells #[.int .i64 k1, .int .i64 o1, sV n1, .int .i64 v1, .slice p l1 c] 25)).alloc (.cells #[.int .i64 0] 26)).alloc (numO 0)) from (((Below.refl _ w).alloc (Nat.le_refl _) _).alloc (by simp) _).alloc (by simp; omega) _)
  refine (callsIn_wide (n := 9)).1 ?_
  refine callsIn_of_wp_marks Tryz.func36 rfl trivial ?_ rfl
  simp only [Tryz.ntmps36, List.size_toArray, List.length_cons, List.length_nil, Nat.reduceAdd, Nat.reduceSub, Array.replicate_succ, Array.replicate_zero, List.push_toArray, List.append_toArray, List.nil_append, List.cons_append]
  gi_wp2_with (fail)
  refine ⟨trivial, callsIn_wide.2 ((C.out _ (w.heap.size + 1 + 1) HA2.out (by omega) (by
    have h := alloc_here ((w.alloc (.cells #[.int .i64 k1, .int .i64 o1, sV n1, .int .i64 v1, .slice p l1 c] 25)).alloc (.cells #[.int .i64 0] 26)) (numO 0)
    have e : ((w.alloc (.cells #[.int .i64 k1, .int .i64 o1, sV n1, .int .i64 v1, .slice p l1 c] 25)).alloc (.cells #[.int .i64 0] 26)).heap.size = w.heap.size + 1 + 1 := by simp
    rw [e] at h; exact h)).mono ?_)⟩
  rintro x W1 ⟨dp, m, rfl, hT, hm1, hr1, hle1, hgt1⟩
  have hsz2 : (((w.alloc (.cells #[.int .i64 k1, .int .i64 o1, sV n1, .int .i64 v1, .slice p l1 c] 25)).alloc (.cells #[.int .i64 0] 26)).alloc (numO 0)).heap.size = w.heap.size + 3 := by simp
  have hcn : W1.cell? ⟨w.heap.size + 1 + 1, 0, none⟩ = some (.int .i64 (m : Int)) := cell_of hT.here rfl
  have hW1 : Ext w W1 := Below.trans HA2.out (hT.below (by omega) (by rw [hsz2]; omega))
  have hbE : W1.heap[w.heap.size]? = some (.cells (exC k1 o1 n1 v1 p l1 c) tEx (0, 0)) := by
    rw [hT.other _ (by rw [hsz2]; omega) (by omega)]
    exact (Below.heap_alloc _ _ _ (by simp; omega)).trans ((Below.heap_alloc _ _ _ (by simp)).trans (alloc_here _ _))
  have hbR : W1.heap[w.heap.size + 1]? = some (.cells #[.int .i64 0] 26 (0, 0)) := by
    rw [hT.other _ (by rw [hsz2]; omega) (by omega)]
    have h := alloc_here (w.alloc (.cells #[.int .i64 k1, .int .i64 o1, sV n1, .int .i64 v1, .slice p l1 c] 25)) (.cells #[.int .i64 0] 26)
    rw [World.size_alloc] at h
    exact (Below.heap_alloc _ _ _ (by simp)).trans h
  have hz1 : w.heap.size + 3 ≤ W1.heap.size := by have := hT.size; rw [hsz2] at this; exact this
  have b0 : W1.cell? ⟨w.heap.size, 0, none⟩ = some (.int .i64 k1) := cell_of hbE rfl
  have b1 : W1.cell? ⟨w.heap.size, 1, none⟩ = some (.int .i64 o1) := cell_of hbE rfl
  have b2 : W1.cell? ⟨w.heap.size, 2, none⟩ = some (sV n1) := cell_of hbE rfl
  have b3 : W1.cell? ⟨w.heap.size, 3, none⟩ = some (.int .i64 v1) := cell_of hbE rfl
  have b4 : W1.cell? ⟨w.heap.size, 4, none⟩ = some (.slice p l1 c) := cell_of hbE rfl
  have cR : W1.cell? ⟨w.heap.size + 1, 0, none⟩ = some (.int .i64 0) := cell_of hbR rfl
  have fR : W1.frozen? ⟨w.heap.size + 1, 0, none⟩ = false := free_of hbR
  have HW1 := Lib.hid hW1
  have HbR := Lib.hid hbR
  clear hT hbE hbR hW1 hsz2 C HA2 hB
  clear B
  by_cases h100 : 100 < s1
  · have hm : 100 < m := hgt1 (by omega)
    have HZ := Lib.hid (show r = 4 by rw [HC.out, if_pos h100])
    have HF := Lib.hid (Below.setCell HW1.out (p := ⟨w.heap.size + 1, 0, none⟩) (show w.heap.size ≤ w.heap.size + 1 by omega) (.int .i64 4))
    have hc5 : (W1.setCell ⟨w.heap.size + 1, 0, none⟩ (.int .i64 4)).cell? ⟨w.heap.size + 1, 0, none⟩ = some (.int .i64 4) := World.cell?_setCell_same' _ _ _ (by rw [cR]; rfl)
    clear hle1 hgt1
    gi_wp2
    exact ⟨.int .i64 4, by simp [results, Tryz.f36, go_sem, hc5], by rw [HZ.out], HF.out⟩
  · obtain ⟨rfl, hdp⟩ := hle1 (by omega)
    by_cases h12 : 12 < g1
    · have HZ := Lib.hid (show r = 22 by rw [HC.out, if_neg h100, if_pos h12])
      have hd12 : 12 < dp := by omega
      have HF := Lib.hid (Below.setCell HW1.out (p := ⟨w.heap.size + 1, 0, none⟩) (show w.heap.size ≤ w.heap.size + 1 by omega) (.int .i64 22))
      have hc5 : (W1.setCell ⟨w.heap.size + 1, 0, none⟩ (.int .i64 22)).cell? ⟨w.heap.size + 1, 0, none⟩ = some (.int .i64 22) := World.cell?_setCell_same' _ _ _ (by rw [cR]; rfl)
      clear hgt1
      gi_wp2
      exact ⟨.int .i64 22, by simp [results, Tryz.f36, go_sem, hc5], by rw [HZ.out], HF.out⟩
    · have HZ := Lib.hid (show r = PEx.ferr d.pre by rw [HC.out, if_neg h100, if_neg h12])
      have hd12 : dp ≤ 12 := by omega
      have hq1 : decide ((100 : Int) < (s1 : Int)) = false := by simp; omega
      have hq2 : decide ((12 : Int) < (dp : Int)) = false := by simp; omega
      clear hgt1
      gi_wp2_with (fail)
      refine ⟨trivial, callsIn_wide.2 ((xparts_any _ _ _ _ _ _ _ _).mono ?_)⟩
      rintro x W3 ⟨B2, rfl, hb3, hE3⟩
      have hW3 : Ext w W3 := Ext.trans HW1.out hE3
      have hP3 := HP.out.low hW3.below
      have hbR3 : Boxed W3 (w.heap.size + 1) 26 (.int .i64 0) := (hE3.below.block _ (lt_of_block HbR.out)).trans HbR.out
      have hn3 : w.heap.size ≤ W3.heap.size := hW3.size
      have hz3 : w.heap.size + 3 ≤ W3.heap.size := Nat.le_trans hz1 hE3.size
      clear b0 b1 b2 b3 b4 cR fR hcn
      gi_wp2_with (fail)
      refine wpIn_rangeFunc_ownH rfl (by omega) (gf := 87) (lb := #[.pointer (some ⟨B2, 0, none⟩)]) rfl trivial (enters_fn Tryz.func87 (by kernel_rfl) rfl)
        (encs := fun x : Pt => #[(.agg #[.int .i64 x.1.er.kind, .int .i64 x.1.er.op, sV x.1.er.name, .int .i64 x.1.er.value, .slice x.1.ptr x.1.er.args.length x.1.cap])]) (HST.out 8 B2 W3 hn3 hb3 hP3) Kx.trans (Kx.putObj hn3) (Below.refl _ _) (fun _ => rfl)
        (fun ys W => (PEx.ferr (ys.map (·.1)) = 0 ∧ Boxed W (w.heap.size + 1) 26 (.int .i64 0)) ∧ Below w.heap.size w W)
        (fun cd ys W => (cd = .ret ∧ ∃ f, f ≠ 0 ∧ PEx.ferr (ys.map (·.1)) = f ∧ Boxed W (w.heap.size + 1) 26 (.int .i64 f)) ∧ Below w.heap.size w W)
        (OwnFrom.and (fun s X Y row hs hg hr => ⟨hs.1, boxed_own (w.heap.size + 1) 26 (fun (_ : Unit) => Value.int .i64 0) () X Y row hs.2 hg (fun r e => (hr r e).2)⟩) (ownFrom_below (Nat.le_refl _) hn3))
        (fun cd => OwnFrom.and (fun s X Y row hs hg hr => ⟨hs.1, by obtain ⟨f, h1, h2, h3⟩ := hs.2; exact ⟨f, h1, h2, boxed_own (w.heap.size + 1) 26 (fun (_ : Unit) => Value.int .i64 f) () X Y row h3 hg (fun r e => (hr r e).2)⟩⟩) (ownFrom_below (Nat.le_refl _) hn3))
        ⟨⟨rfl, hbR3⟩, hW3⟩
        (fun x a' W => ∃ Bx, W.heap[Bx]? = some (.cells (exC x.1.er.kind x.1.er.op x.1.er.name x.1.er.value x.1.ptr x.1.er.args.length x.1.cap) tEx (0, 0)) ∧ a' = { tmps := #[(.agg #[.int .i64 k1, .int .i64 o1, sV n1, .int .i64 v1, .slice p l1 c]), .pointer (some ⟨w.heap.size, 0, none⟩), .pointer (some ⟨w.heap.size + 1, 0, none⟩), .pointer (some ⟨w.heap.size + 1 + 1, 0, none⟩), .int .i64 (dp : Int), .pointer (some ⟨Bx, 0, none⟩), undef, (.agg #[.int .i64 k1, .int .i64 o1, sV n1, .int .i64 v1, .slice p l1 c]), .int .i64 (dp : Int), .int .i64 (s1 : Int), .bool false, .int .i64 (dp : Int), .bool false, (.agg #[.int .i64 k1, .int .i64 o1, sV n1, .int .i64 v1, .slice p l1 c]), .func (.func 87) #[] #[.pointer (some ⟨B2, 0, none⟩)], (.agg #[.int .i64 x.1.er.kind, .int .i64 x.1.er.op, sV x.1.er.name, .int .i64 x.1.er.value, .slice x.1.ptr x.1.er.args.length x.1.cap]), undef, undef, undef, undef, undef], defers := [] })
        (fun x a' _ X Y row hs hg hr => by obtain ⟨Bx, h1, h3⟩ := hs; exact ⟨Bx, cells_own h1 hg (fun r e => (hr r e).2), h3⟩)
        ?assign ?body ?done ?stop
      case assign =>
        rintro l ys x W K ⟨⟨h1, h2⟩, h3⟩ hK
        have hw := h3.size
        generalize x.1.er.kind = k2 at *
        generalize x.1.er.op = o2 at *
        generalize x.1.er.name = n2 at *
        generalize x.1.er.value = v2 at *
        generalize x.1.er.args.length = l2 at *
        generalize x.1.ptr = q2 at *
        generalize x.1.cap = c2 at *
        gi_wp2
        exact hK _ _ ((KeepsOthers.alloc _ _).from _) (Kx.of_ext ((Below.refl _ W).alloc (Nat.le_refl _) _) hw) ⟨⟨h1, h2.alloc _⟩, h3.alloc hw _⟩ ⟨W.heap.size, alloc_here _ _, rfl⟩
      case body =>
        rintro l ys x a' W hl ⟨rr, hr⟩ ⟨⟨h1, h2⟩, h3⟩ ⟨Bx, hbx, rfl⟩ hlt
        have CK := Lib.hid (fun W => show Gives _ _ #[(.agg #[.int .i64 x.1.er.kind, .int .i64 x.1.er.op, sV x.1.er.name, .int .i64 x.1.er.value, .slice x.1.ptr x.1.er.args.length x.1.cap])] _ _ from check_any x.1.er x.1.ptr x.1.cap W x.2)
        have hw := h3.size
        have HF := Lib.hid (show ∀ f, pc x.1.er = f → PEx.ferr ((ys ++ [x]).map (·.1)) = f from fun f hf => by rw [List.map_append, PEx.ferr_app, h1]; simp [PEx.ferr, hf]; exact fun h => h.symm)
        generalize pc x.1.er = f1 at *
        generalize x.1.er.kind = k2 at *
        generalize x.1.er.op = o2 at *
        generalize x.1.er.name = n2 at *
        generalize x.1.er.value = v2 at *
        generalize x.1.er.args.length = l2 at *
        generalize x.1.ptr = q2 at *
        generalize x.1.cap = c2 at *
        have b0 : W.cell? ⟨Bx, 0, none⟩ = some (.int .i64 k2) := cell_of hbx rfl
        have b1 : W.cell? ⟨Bx, 1, none⟩ = some (.int .i64 o2) := cell_of hbx rfl
        have b2 : W.cell? ⟨Bx, 2, none⟩ = some (sV n2) := cell_of hbx rfl
        have b3 : W.cell? ⟨Bx, 3, none⟩ = some (.int .i64 v2) := cell_of hbx rfl
        have b4 : W.cell? ⟨Bx, 4, none⟩ = some (.slice q2 l2 c2) := cell_of hbx rfl
        by_cases hf : f1 = 0
        · subst hf
          gi_wp2_with (fail)
          refine ⟨trivial, (CallsIn.inRound l (callsIn_wide.2 (CK.out W))).mono ?_⟩
          rintro e W4 ⟨rfl, hE4⟩
          gi_wp2
          exact ⟨keepsFrom_ext hE4, Kx.of_ext hE4 hw, ⟨HF.out 0 rfl, (hE4.block _ h2.lt).trans h2⟩, h3.trans (hE4.mono hw)⟩
        · have hg1 : (f1 == 0) = false := by simpa using hf
          have hg2 : (f1 != 0) = true := by simpa using hf
          have HNE := Lib.hid hf
          clear hf
          gi_wp2_with (fail)
          refine ⟨trivial, (CallsIn.inRound l (callsIn_wide.2 (CK.out W))).mono ?_⟩
          rintro e W4 ⟨rfl, hE4⟩
          have h24 : Boxed W4 (w.heap.size + 1) 26 (.int .i64 0) := (hE4.block _ h2.lt).trans h2
          have cS := h24.cell
          have fS := h24.frozen
          gi_wp2
          exact ⟨(keepsFrom_ext hE4).trans ((KeepsOthers.setCell _ _ _).from _), ⟨rfl, f1, HNE.out, HF.out f1 rfl, h24.set _⟩, (h3.trans (hE4.mono hw)).setCell (p := ⟨w.heap.size + 1, 0, none⟩) (by simp) _⟩
      case done =>
        rintro D ys W hD hys ⟨⟨h1, h2⟩, h3⟩ hK
        have HZ2 := Lib.hid (show r = 0 by rw [HZ.out, ← h1]; exact congrArg PEx.ferr hys.symm)
        have cS := h2.cell
        have fS := h2.frozen
        clear h1 hys
        gi_wp2
        have hK' := (KeepsOthers.setCell W ⟨w.heap.size + 1, 0, none⟩ (.int .i64 0)).same D _ hK rfl
        refine ⟨by simp, .inl ⟨_, _, rfl, run_takeDeferred hK', ?_⟩⟩
        have hc5 := cell_kept (World.cell?_setCell_same' W ⟨w.heap.size + 1, 0, none⟩ (.int .i64 0) (by rw [cS]; rfl)) (grownBy_putObj' _ D (.deferred none)) (fun r e => by cases e; exact ⟨_, hK', rfl⟩)
        refine ⟨.int .i64 0, ?_, by rw [HZ2.out], (h3.setCell (p := ⟨w.heap.size + 1, 0, none⟩) (by simp) _).trans (belowK_b (w := w) (Nat.le_refl _) _ D _ _ (by omega) hK' rfl rfl)⟩
        simp [results, Tryz.f36, go_sem, hc5]
      case stop =>
        rintro D cd ys W hD hys ⟨⟨rfl, f, hf, h1, h2⟩, h3⟩ hK
        have HZ2 := Lib.hid (show r = f by
          rw [HZ.out]
          obtain ⟨rest, hrest⟩ := hys
          rw [← hrest, PEx.ferr_app, h1, if_pos hf])
        have cS := h2.cell
        clear h1 hys
        gi_wp2
        refine ⟨by simp, .inl ⟨_, _, rfl, run_takeDeferred hK, ?_⟩⟩
        have hc5 := cell_kept cS (grownBy_putObj' _ D (.deferred none)) (fun r e => by cases e; exact ⟨_, hK, rfl⟩)
        refine ⟨.int .i64 f, ?_, by rw [HZ2.out], h3.trans (belowK_b (w := w) (Nat.le_refl _) W D _ _ (by omega) hK rfl rfl)⟩
        simp [results, Tryz.f36, go_sem, hc5]

end Go.Proofs.YtmokejjndkibhaaGreatDoor

namespace Go.Proofs.YtmokejjndkibhaaGreatDoor
open Go.RowKit
set_option linter.unusedVariables false
set_option linter.unusedSimpArgs false

end Go.Proofs.YtmokejjndkibhaaGreatDoor

namespace Go.Proofs.YtmokejjndkibhaaGreatDoor
open Go.RowKit
set_option linter.unusedVariables false
set_option linter.unusedSimpArgs false

end Go.Proofs.YtmokejjndkibhaaGreatDoor

namespace Go.Proofs.YtmokejjndkibhaaGreatDoor
open Go.RowKit
set_option linter.unusedVariables false
set_option linter.unusedSimpArgs false
open Ex

/-- the type of a part whose arguments have the types l -/
def tyN (bs : List Bn) (k o : Int) (n : List UInt8) (l : List Int) : Int × Int :=
  if k = 1 then (1, 0) else if k = 2 then (if fdIs bs n then ((fdB bs n).type, 0) else (0, 7)) else
  if k = 3 then (if l.getD 0 0 = (if o = 2 then 2 else 1) then (if o = 2 then 2 else 1, 0) else (0, 15)) else
  if l.getD 0 0 = l.getD 1 0 ∧ ((opOf o).arg = 0 ∨ l.getD 0 0 = (opOf o).arg) then ((opOf o).res, 0) else (0, 15)
mutual
/-- the type of an expression, and its error -/
def Ex.ty (bs : List Bn) : Ex → Int × Int
  | .mk k o n _ ts => if (Ex.tys bs ts).1 ≠ 0 then (0, (Ex.tys bs ts).1) else tyN bs k o n (Ex.tys bs ts).2
def Ex.tys (bs : List Bn) : List Ex → Int × List Int
  | [] => (0, [])
  | e :: es => if (e.ty bs).2 ≠ 0 then ((e.ty bs).2, []) else ((Ex.tys bs es).1, (e.ty bs).1 :: (Ex.tys bs es).2)
end
/-- a valid part, and valid arguments -/
theorem fe_mk {k o : Int} {n : List UInt8} {v : Int} {ts : List Ex} (h : (Ex.mk k o n v ts).fe = 0) : pc' k o n v ts.length = 0 ∧ fes ts = 0 := by
  simp only [Ex.fe] at h
  by_cases hp : pc' k o n v ts.length = 0
  · rw [if_neg (by simp [hp])] at h; exact ⟨hp, h⟩
  · rw [if_pos hp] at h; exact absurd h hp
theorem fes_get {ts : List Ex} (h : fes ts = 0) (j : Nat) (hj : j < ts.length) : (ts[j]).fe = 0 := by
  induction ts generalizing j with
  | nil => simp at hj
  | cons t ts ih =>
    rw [fes] at h
    by_cases ht : t.fe = 0
    · rw [if_neg (by simp [ht])] at h
      cases j with
      | zero => exact ht
      | succ j => exact ih h j (by simpa using hj)
    · rw [if_pos ht] at h; exact absurd h ht
/-- the kinds of valid parts -/
theorem pc_zero {k o : Int} {n : List UInt8} {v : Int} {m : Nat} (h : pc' k o n v m = 0) :
    (k = 1 ∧ o = 0 ∧ n = [] ∧ m = 0 ∧ 0 ≤ v ∧ v ≤ 1099511627776) ∨ (k = 2 ∧ o = 0 ∧ v = 0 ∧ m = 0 ∧ isNm n = true) ∨
    (k = 3 ∧ n = [] ∧ v = 0 ∧ m = 1 ∧ (o = 1 ∨ o = 2)) ∨ (k = 4 ∧ n = [] ∧ v = 0 ∧ m = 2 ∧ 3 ≤ o ∧ o ≤ 15) := by
  revert h
  refine pc_ind (Q := fun k o n v m r => r = 0 → (k = 1 ∧ o = 0 ∧ n = [] ∧ m = 0 ∧ 0 ≤ v ∧ v ≤ 1099511627776) ∨ (k = 2 ∧ o = 0 ∧ v = 0 ∧ m = 0 ∧ isNm n = true) ∨ (k = 3 ∧ n = [] ∧ v = 0 ∧ m = 1 ∧ (o = 1 ∨ o = 2)) ∨ (k = 4 ∧ n = [] ∧ v = 0 ∧ m = 2 ∧ 3 ≤ o ∧ o ≤ 15)) ?_ ?_ ?_ ?_ ?_ ?_ ?_ ?_ ?_ ?_ ?_ ?_ ?_ ?_ ?_ ?_ ?_ ?_ ?_ ?_ ?_ ?_ ?_ ?_ ?_ k o n v m
  all_goals first
    | (intro a1 a2 a3 a4 a5 h; exact absurd h (by decide))
    | (intro a1 a2 a3 a4 h; exact absurd h (by decide))
    | (intro a1 a2 a3 h; exact absurd h (by decide))
    | (intro a1 a2 h; exact absurd h (by decide))
    | (intro a1 a2 a3 a4 a5 a6 h; exact absurd h (by decide))
    | (intro v h1 h2 _; exact .inl ⟨rfl, rfl, rfl, rfl, by omega, by omega⟩)
    | (intro n h1 _; exact .inr (.inl ⟨rfl, rfl, rfl, rfl, h1⟩))
    | (intro _ _; exact .inr (.inr (.inl ⟨rfl, rfl, rfl, rfl, by omega⟩)))
    | (intro o h1 h2 _; exact .inr (.inr (.inr ⟨rfl, rfl, rfl, rfl, by omega, by omega⟩)))

end Go.Proofs.YtmokejjndkibhaaGreatDoor

namespace Go.Proofs.YtmokejjndkibhaaGreatDoor
open Go.RowKit
set_option linter.unusedVariables false

/-- the slice at a holds the integers l -/
def IntsAt (w : World) (a : Option Addr) (l : List Int) : Prop := ∀ i (h : i < l.length), ∃ b off, a = some ⟨b, off, none⟩ ∧ w.cell? ⟨b, off + i, none⟩ = some (.int .i64 l[i])
theorem cell_lt {w : World} {a : Addr} {v : Value} (h : w.cell? a = some v) : a.block < w.heap.size := by
  unfold World.cell? at h
  split at h
  · rename_i hx; exact lt_of_block hx
  · cases h
theorem IntsAt.below {w W : World} {a : Option Addr} {l : List Int} (h : IntsAt w a l) (hE : Below w.heap.size w W) : IntsAt W a l := fun i hi => by
  obtain ⟨b, off, e, hc⟩ := h i hi
  exact ⟨b, off, e, (hE.cell (p := ⟨b, off + i, none⟩) (cell_lt hc)).trans hc⟩
theorem IntsAt.at {w : World} {a : Option Addr} {l : List Int} (h : IntsAt w a l) {i : Nat} (hi : i < l.length) : ∃ b off, a = some ⟨b, off, none⟩ ∧ w.cell? ⟨b, off + i, none⟩ = some (.int .i64 l[i]) := h i hi
theorem IntsAt.nil {w : World} {a : Option Addr} : IntsAt w a [] := fun i hi => by simp at hi
end Go.Proofs.YtmokejjndkibhaaGreatDoor

namespace Go.Proofs.YtmokejjndkibhaaGreatDoor
open Go.RowKit
set_option linter.unusedVariables false

theorem ownsRow_extI {base : Nat} {e : TypeId} {k : Nat} {v : Value} {n : Nat} {xs : List Value} {w w' : World} (h : w.ownsRow base e k v n xs) (hb : Below w.heap.size w w') : w'.ownsRow base e k v n xs :=
  h.kept (row := none) ⟨hb.os, hb.tape, hb.output, hb.size, fun i hi _ => hb.block i hi⟩ (by cases v.ownBlock with | none => exact .inl rfl | some j => exact .inr (by simp))
variable {ops : Array Oper} {rest : List Oper} {o : Oper} {a : Act} {Q : Exit → Act → World → Prop}
/-- v is a slice of integers of the call's own, holding l -/
def RowI (base : Nat) (v : Value) (l : List Int) (w : World) : Prop := w.ownsRow base 3 1 v l.length (l.map (Value.int .i64))
theorem RowI.nil (base : Nat) (w : World) : RowI base (.slice none 0 0) [] w := World.ownsRow_nil _ _ _ _
theorem RowI.empty (w : World) (base : Nat) (hb : base ≤ w.heap.size) : RowI base (.slice (some ⟨w.heap.size, 0, none⟩) 0 0) [] (w.alloc (.cells #[] 3)) :=
  World.ownsRow_lit w #[] 0 hb (by unfold maxLen; omega) (by simp)
theorem RowI.ext {base : Nat} {v : Value} {l : List Int} {w w' : World} (h : RowI base v l w) (hb : Below w.heap.size w w') : RowI base v l w' := ownsRow_extI h hb
theorem RowI.forms {base : Nat} {v : Value} {l : List Int} {w : World} (h : RowI base v l w) : (v = .slice none 0 0 ∧ l.length = 0) ∨ ∃ g cap, v = .slice (some ⟨g, 0, none⟩) l.length cap := Go.Joins.ownsRow_forms h
end Go.Proofs.YtmokejjndkibhaaGreatDoor

namespace Go.Proofs.YtmokejjndkibhaaGreatDoor
open Go.RowKit
set_option linter.unusedVariables false
set_option linter.unusedSimpArgs false
open Ex

/-- the cells of the variable that holds operator o -/
def opF (o : Int) (c : Array Value) : Prop := ∃ fv, c = #[sV (opOf o).sign, .int .i64 (opOf o).prec, .int .i64 (opOf o).arg, .int .i64 (opOf o).res, fv]
/-- the values of the region that looks a known operator up -/
def op25 (B Bd : Nat) (o : Int) : Nat → (Nat → Value) → World → Prop
  | 0, s, W => ∃ b, s 0 = .map (some b) ∧ OpsAt W b opL
  | 1, s, _ => s 1 = .pointer (some ⟨B, 1, none⟩)
  | 2, s, _ => s 2 = .int .i64 o
  | 3, s, _ => ∃ fv, s 3 = (opOf o).val fv ∧ fv.oneCell' = true
  | 4, s, W => ∃ g cc, s 4 = .pointer (some ⟨g, 0, none⟩) ∧ Bd ≤ g ∧ W.heap[g]? = some (.cells cc tOp (0, 0)) ∧ cc.size = 5
  | 5, s, W => ∃ g cc, s 4 = .pointer (some ⟨g, 0, none⟩) ∧ Bd ≤ g ∧ W.heap[g]? = some (.cells cc tOp (0, 0)) ∧ opF o cc
  | _, _, _ => True
def op25D : Nat → List Nat := fun j => if j = 5 then [4] else [j]
theorem op25_st (B Bd : Nat) (o : Int) : ∀ j s s' W W', op25 B Bd o j s W → (∀ i ∈ op25D j, s' i = s i) → Grow Bd tOp (opF o) W W' → op25 B Bd o j s' W' := by
  intro j s s' W W' h hs hG
  match j, h, hs with
  | 0, ⟨b, h1, h2⟩, hs => exact ⟨b, (hs 0 (by simp [op25D])).trans h1, h2.grow hG (by decide) (by decide)⟩
  | 1, h, hs => exact (hs 1 (by simp [op25D])).trans h
  | 2, h, hs => exact (hs 2 (by simp [op25D])).trans h
  | 3, ⟨fv, h1, h2⟩, hs => exact ⟨fv, (hs 3 (by simp [op25D])).trans h1, h2⟩
  | 4, ⟨g, cc, h1, h2, h3, h4⟩, hs =>
    obtain ⟨c', h5, h6⟩ := hG.turn h3
    exact ⟨g, c', (hs 4 (by simp [op25D])).trans h1, h2, h5, h6.trans h4⟩
  | 5, ⟨g, cc, h1, h2, h3, h4⟩, hs =>
    obtain ⟨c', h5, h6⟩ := hG.done h3 h4
    exact ⟨g, c', (hs 4 (by simp [op25D])).trans h1, h2, h5, h6⟩
  | n + 6, h, hs => exact trivial
theorem six {α : Type} (fs : List α) (h : fs.length = 6) : ∃ a b c d e f, fs = [a, b, c, d, e, f] := by
  match fs, h with
  | [a, b, c, d, e, f], _ => exact ⟨a, b, c, d, e, f, rfl⟩
theorem fnOk_one {W : World} {k : Int} {fv : Value} (h : FnOk W k fv) : fv.oneCell' = true := by
  rcases h with ⟨_, rfl⟩ | ⟨n, g, _, rfl, _⟩ | ⟨n, g, _, rfl, _⟩ | ⟨n, g, h, _, rfl, _⟩ <;> rfl

end Go.Proofs.YtmokejjndkibhaaGreatDoor

namespace Go.Proofs.YtmokejjndkibhaaGreatDoor
open Go.RowKit
set_option linter.unusedVariables false
set_option linter.unusedSimpArgs false
open Ex

end Go.Proofs.YtmokejjndkibhaaGreatDoor

namespace Go.Proofs.YtmokejjndkibhaaGreatDoor
open Go.RowKit
set_option linter.unusedVariables false
set_option linter.unusedSimpArgs false
open Ex

theorem chk_zero {e : Ex} (h : e.chk = 0) : e.size ≤ 100 ∧ e.height ≤ 12 ∧ e.fe = 0 := by
  unfold Ex.chk at h
  by_cases h1 : 100 < e.size
  · rw [if_pos h1] at h; cases h
  · rw [if_neg h1] at h
    by_cases h2 : 12 < e.height
    · rw [if_pos h2] at h; cases h
    · rw [if_neg h2] at h; exact ⟨by omega, by omega, h⟩
end Go.Proofs.YtmokejjndkibhaaGreatDoor

namespace Go.Proofs.YtmokejjndkibhaaGreatDoor
open Go.RowKit
set_option linter.unusedVariables false
set_option linter.unusedSimpArgs false
open Ex

theorem len1 {α : Type} {l : List α} (h : l.length = 1) : ∃ a, l = [a] := List.length_eq_one_iff.1 h
theorem len2 {α : Type} {l : List α} (h : l.length = 2) : ∃ a b, l = [a, b] := by
  match l, h with
  | [a, b], _ => exact ⟨a, b, rfl⟩
end Go.Proofs.YtmokejjndkibhaaGreatDoor

namespace Go.Proofs.YtmokejjndkibhaaGreatDoor
open Go.RowKit
set_option linter.unusedVariables false
set_option linter.unusedSimpArgs false
open Ex

end Go.Proofs.YtmokejjndkibhaaGreatDoor

namespace Go.Proofs.YtmokejjndkibhaaGreatDoor
open Go.RowKit
set_option linter.unusedVariables false
set_option linter.unusedSimpArgs false
open Ex

end Go.Proofs.YtmokejjndkibhaaGreatDoor

namespace Go.Proofs.YtmokejjndkibhaaGreatDoor
open Go.RowKit
set_option linter.unusedVariables false
set_option linter.unusedSimpArgs false
open Ex

end Go.Proofs.YtmokejjndkibhaaGreatDoor

namespace Go.Proofs.YtmokejjndkibhaaGreatDoor
open Go.RowKit
set_option linter.unusedVariables false
set_option linter.unusedSimpArgs false
open Ex

end Go.Proofs.YtmokejjndkibhaaGreatDoor

namespace Go.Proofs.YtmokejjndkibhaaGreatDoor
open Go.RowKit
set_option linter.unusedVariables false
set_option linter.unusedSimpArgs false

namespace Ex
mutual
/-- the arguments of e lie at p, in blocks of S -/
def AtB (S : Nat → Prop) (w : World) (p : Option Addr) : Ex → Prop
  | .mk k o n x ts => fits (.mk k o n x ts) ∧ AtBL S w p 0 ts
def AtBL (S : Nat → Prop) (w : World) (p : Option Addr) (i : Nat) : List Ex → Prop
  | [] => True
  | e :: es => (∃ b o q c, p = some ⟨b, o, none⟩ ∧ S b ∧ cells w b (o + i * 5) e q c ∧ AtB S w q e) ∧ AtBL S w p (i + 1) es
end
mutual
theorem AtB.at {S : Nat → Prop} {w : World} : ∀ {p : Option Addr} {e : Ex}, AtB S w p e → Ex.At w p e
  | _, .mk _ _ _ _ _, h => ⟨h.1, AtBL.at h.2⟩
theorem AtBL.at {S : Nat → Prop} {w : World} : ∀ {p : Option Addr} {i : Nat} {es : List Ex}, AtBL S w p i es → AtL w p i es
  | _, _, [], _ => trivial
  | _, _, _ :: _, ⟨⟨b, o, q, c, e1, _, e2, e3⟩, h2⟩ => ⟨⟨b, o, q, c, e1, e2, AtB.at e3⟩, AtBL.at h2⟩
end
mutual
theorem At.toB {w : World} : ∀ {p : Option Addr} {e : Ex}, Ex.At w p e → AtB (· < w.heap.size) w p e
  | _, .mk _ _ _ _ _, h => ⟨h.1, AtL.toB h.2⟩
theorem AtL.toB {w : World} : ∀ {p : Option Addr} {i : Nat} {es : List Ex}, AtL w p i es → AtBL (· < w.heap.size) w p i es
  | _, _, [], _ => trivial
  | _, _, _ :: _, ⟨⟨b, o, q, c, e1, e2, e3⟩, h2⟩ => ⟨⟨b, o, q, c, e1, cell_lt' e2.1, e2, At.toB e3⟩, AtL.toB h2⟩
end
theorem cells.block {w W : World} {b o : Nat} {e : Ex} {p : Option Addr} {c : Nat} (h : cells w b o e p c) (hb : W.heap[b]? = w.heap[b]?) : cells W b o e p c := by
  have hc : ∀ i, W.cell? ⟨b, i, none⟩ = w.cell? ⟨b, i, none⟩ := fun i => by unfold World.cell?; simp only [hb]
  obtain ⟨h0, h1, h2, h3, h4⟩ := h
  exact ⟨(hc _).trans h0, (hc _).trans h1, (hc _).trans h2, (hc _).trans h3, (hc _).trans h4⟩
mutual
/-- another class, another world: the blocks that e lies in are as they were -/
theorem AtB.keep {S S' : Nat → Prop} {w W : World} (hS : ∀ b, S b → b < w.heap.size → S' b ∧ W.heap[b]? = w.heap[b]?) : ∀ {p : Option Addr} {e : Ex}, AtB S w p e → AtB S' W p e
  | _, .mk _ _ _ _ _, h => ⟨h.1, AtBL.keep hS h.2⟩
theorem AtBL.keep {S S' : Nat → Prop} {w W : World} (hS : ∀ b, S b → b < w.heap.size → S' b ∧ W.heap[b]? = w.heap[b]?) : ∀ {p : Option Addr} {i : Nat} {es : List Ex}, AtBL S w p i es → AtBL S' W p i es
  | _, _, [], _ => trivial
  | _, _, _ :: _, ⟨⟨b, o, q, c, e1, e0, e2, e3⟩, h2⟩ => ⟨⟨b, o, q, c, e1, (hS b e0 (cell_lt' e2.1)).1, e2.block (hS b e0 (cell_lt' e2.1)).2, AtB.keep hS e3⟩, AtBL.keep hS h2⟩
end
theorem AtB.ext {S : Nat → Prop} {w W : World} {p : Option Addr} {e : Ex} (h : AtB S w p e) (hE : Ext w W) : AtB S W p e := h.keep (fun b hb hl => ⟨hb, hE.below.block b hl⟩)
theorem AtB.imp {S S' : Nat → Prop} {w : World} {p : Option Addr} {e : Ex} (h : AtB S w p e) (hS : ∀ b, S b → b < w.heap.size → S' b) : AtB S' w p e := h.keep (fun b hb hl => ⟨hS b hb hl, rfl⟩)
theorem AtB.fit {S : Nat → Prop} {w : World} {p : Option Addr} {e : Ex} (h : AtB S w p e) : fits e := by cases e; exact h.1
theorem AtBL.get {S : Nat → Prop} {w : World} {p : Option Addr} {es : List Ex} : ∀ {i : Nat}, AtBL S w p i es → ∀ j (h : j < es.length), ∃ b o q c, p = some ⟨b, o, none⟩ ∧ S b ∧ cells w b (o + (i + j) * 5) es[j] q c ∧ AtB S w q es[j] := by
  induction es with
  | nil => intro i h j hj; simp at hj
  | cons e es ih =>
    intro i h j hj
    obtain ⟨h1, h2⟩ := h
    cases j with
    | zero => exact h1
    | succ j =>
      obtain ⟨b, o, q, c, e1, e2, e3, e4⟩ := ih h2 j (by simpa using hj)
      exact ⟨b, o, q, c, e1, e2, by rw [show i + (j + 1) = i + 1 + j by omega]; exact e3, e4⟩
theorem AtBL.of_get {S : Nat → Prop} {w : World} {b o : Nat} {es : List Ex} (hb : es ≠ [] → S b) : ∀ {i : Nat}, (∀ j (h : j < es.length), ∃ q c, cells w b (o + (i + j) * 5) es[j] q c ∧ AtB S w q es[j]) → AtBL S w (some ⟨b, o, none⟩) i es := by
  induction es with
  | nil => intro i _; trivial
  | cons e es ih =>
    intro i h
    obtain ⟨q, c, h1, h2⟩ := h 0 (by simp)
    refine ⟨⟨b, o, q, c, rfl, hb (by simp), h1, h2⟩, ih (fun hne => hb (by simp)) (fun j hj => ?_)⟩
    obtain ⟨q, c, h1, h2⟩ := h (j + 1) (by simpa using hj)
    exact ⟨q, c, by rw [show i + 1 + j = i + (j + 1) by omega]; exact h1, h2⟩
end Ex

/-- an expression, and where its arguments lie -/
abbrev XE := Ex × Option Addr × Nat
/-- the cells of an element -/
def ec (r : XE) : List Value := [.int .i64 r.1.kind, .int .i64 r.1.op, sV r.1.name, .int .i64 r.1.value, .slice r.2.1 r.1.args.length r.2.2]
def rowC (rs : List XE) : List Value := rs.flatMap ec
theorem rowC_get (rs : List XE) (j i : Nat) (hj : j < rs.length) (hi : i < 5) : (rowC rs)[j * 5 + i]? = (ec rs[j])[i]? := by
  induction rs generalizing j with
  | nil => simp at hj
  | cons r rs ih =>
    simp only [rowC, List.flatMap_cons] at ih ⊢
    cases j with
    | zero => rw [List.getElem?_append_left (by simp [ec]; omega)]; simp
    | succ j =>
      rw [List.getElem?_append_right (by simp [ec]; omega)]
      have : (j + 1) * 5 + i - (ec r).length = j * 5 + i := by simp [ec]; omega
      rw [this, ih j (by simpa using hj)]
      simp
/-- the cells of a row, one element replaced -/
theorem rowC_set (rs : List XE) (j : Nat) (hj : j < rs.length) (r : XE) : (((((rowC rs).set (j * 5) (.int .i64 r.1.kind)).set (j * 5 + 1) (.int .i64 r.1.op)).set (j * 5 + 2) (sV r.1.name)).set (j * 5 + 3) (.int .i64 r.1.value)).set (j * 5 + 4) (.slice r.2.1 r.1.args.length r.2.2) = rowC (rs.set j r) := by
  induction rs generalizing j with
  | nil => simp at hj
  | cons x rs ih =>
    cases j with
    | zero => simp [rowC, ec]
    | succ j =>
      have := ih j (by simpa using hj)
      have h5 : (j + 1) * 5 = j * 5 + 1 + 1 + 1 + 1 + 1 := by omega
      simp only [rowC, List.flatMap_cons, List.set_cons_succ] at this ⊢
      rw [← this, h5]
      simp [ec]
/-- v is a row of expressions of the call's own -/
def RowE (base : Nat) (v : Value) (rs : List XE) (w : World) : Prop := w.ownsRow base tEx 5 v rs.length (rowC rs)
theorem RowE.ext {base : Nat} {v : Value} {rs : List XE} {w w' : World} (h : RowE base v rs w) (hb : Ext w w') : RowE base v rs w' := ownsRow_extI h hb
theorem RowE.forms {base : Nat} {v : Value} {rs : List XE} {w : World} (h : RowE base v rs w) : (v = .slice none 0 0 ∧ rs = []) ∨ ∃ g cap, v = .slice (some ⟨g, 0, none⟩) rs.length cap ∧ base ≤ g ∧ g < w.heap.size := by
  rcases Go.Joins.ownsRow_forms h with ⟨h1, h2⟩ | ⟨g, cap, h1⟩
  · exact .inl ⟨h1, List.eq_nil_of_length_eq_zero h2⟩
  · subst h1
    exact .inr ⟨g, cap, rfl, World.ownsRow.lt h g rfl⟩
theorem RowE.cells {base g cap : Nat} {rs : List XE} {w : World} (h : RowE base (.slice (some ⟨g, 0, none⟩) rs.length cap) rs w) (j : Nat) (hj : j < rs.length) : Ex.cells w g (j * 5) rs[j].1 rs[j].2.1 rs[j].2.2 := by
  have hc : ∀ i, i < 5 → w.cell? ⟨g, j * 5 + i, none⟩ = (ec rs[j])[i]? := fun i hi => by
    rw [World.ownsRow.cellAt h (j * 5 + i) (by omega), rowC_get rs j i hj hi]
  exact ⟨hc 0 (by omega), hc 1 (by omega), hc 2 (by omega), hc 3 (by omega), hc 4 (by omega)⟩
/-- the world behind a store of a whole element -/
def set5 (w : World) (g o : Nat) (r : XE) : World :=
  ((((w.setCell ⟨g, o, none⟩ (.int .i64 r.1.kind)).setCell ⟨g, o + 1, none⟩ (.int .i64 r.1.op)).setCell ⟨g, o + 2, none⟩ (sV r.1.name)).setCell ⟨g, o + 3, none⟩ (.int .i64 r.1.value)).setCell ⟨g, o + 4, none⟩ (.slice r.2.1 r.1.args.length r.2.2)
theorem RowE.store {base g cap : Nat} {rs : List XE} {w : World} (h : RowE base (.slice (some ⟨g, 0, none⟩) rs.length cap) rs w) (j : Nat) (hj : j < rs.length) (r : XE) : RowE base (.slice (some ⟨g, 0, none⟩) (rs.set j r).length cap) (rs.set j r) (set5 w g (j * 5) r) := by
  unfold RowE set5
  rw [List.length_set, ← rowC_set rs j hj r]
  exact (World.ownsRow.stored (World.ownsRow.stored (World.ownsRow.stored (World.ownsRow.stored (World.ownsRow.stored h _ _).1 _ _).1 _ _).1 _ _).1 _ _).1
end Go.Proofs.YtmokejjndkibhaaGreatDoor

namespace Go.Proofs.YtmokejjndkibhaaGreatDoor
open Go.RowKit
set_option linter.unusedVariables false
set_option linter.unusedSimpArgs false

end Go.Proofs.YtmokejjndkibhaaGreatDoor

namespace Go.Proofs.YtmokejjndkibhaaGreatDoor
open Go.RowKit
set_option linter.unusedVariables false
set_option linter.unusedSimpArgs false
open Ex

/-- the expression of an integer -/
def lit (n : Int) : Ex := if n < 0 then .mk 3 1 [] 0 [.mk 1 0 [] (-n) []] else .mk 1 0 [] n []
theorem put5 {W : World} {B : Nat} {c : Array Value} {T : TypeId} {f : Nat × Nat} (h : W.heap[B]? = some (.cells c T f)) (hc : c.size = 5) (x0 x1 x2 x3 x4 : Value) :
    (((((W.setCell ⟨B, 0, none⟩ x0).setCell ⟨B, 1, none⟩ x1).setCell ⟨B, 2, none⟩ x2).setCell ⟨B, 3, none⟩ x3).setCell ⟨B, 4, none⟩ x4).heap[B]? = some (.cells #[x0, x1, x2, x3, x4] T f) ∧
    (∀ n₀, n₀ ≤ B → Below n₀ W (((((W.setCell ⟨B, 0, none⟩ x0).setCell ⟨B, 1, none⟩ x1).setCell ⟨B, 2, none⟩ x2).setCell ⟨B, 3, none⟩ x3).setCell ⟨B, 4, none⟩ x4)) ∧
    (∀ b, b ≠ B → (((((W.setCell ⟨B, 0, none⟩ x0).setCell ⟨B, 1, none⟩ x1).setCell ⟨B, 2, none⟩ x2).setCell ⟨B, 3, none⟩ x3).setCell ⟨B, 4, none⟩ x4).heap[b]? = W.heap[b]?) := by
  refine ⟨?_, fun n₀ hn => ((((((Below.refl n₀ W).setCell (p := ⟨B, 0, none⟩) hn _).setCell (p := ⟨B, 1, none⟩) hn _).setCell (p := ⟨B, 2, none⟩) hn _).setCell (p := ⟨B, 3, none⟩) hn _).setCell (p := ⟨B, 4, none⟩) hn _), fun b hb => ?_⟩
  · obtain ⟨l⟩ := c
    match l, hc with
    | [a0, a1, a2, a3, a4], _ =>
      have h0 : Turn B (.cells #[a0, a1, a2, a3, a4] T f) W W := Turn.refl h
      exact (((((h0.setCell (i := 0) x0).setCell (i := 1) x1).setCell (i := 2) x2).setCell (i := 3) x3).setCell (i := 4) x4).here
  · rw [Below.heap_setCell _ ⟨B, 4, none⟩ _ _ hb, Below.heap_setCell _ ⟨B, 3, none⟩ _ _ hb, Below.heap_setCell _ ⟨B, 2, none⟩ _ _ hb, Below.heap_setCell _ ⟨B, 1, none⟩ _ _ hb, Below.heap_setCell _ ⟨B, 0, none⟩ _ _ hb]
/-- an expression without arguments needs no memory -/
theorem AtB_leaf (S : Nat → Prop) (w : World) (p : Option Addr) {k o : Int} {n : List UInt8} {v : Int} (h : fits (.mk k o n v [])) : AtB S w p (.mk k o n v []) := ⟨h, trivial⟩
theorem fits_num (n : Int) (h1 : -1099511627776 ≤ n) (h2 : n ≤ 1099511627776) : fits (.mk 1 0 [] n []) :=
  ⟨⟨by show _ ≤ (1 : Int); omega, by show (1 : Int) ≤ _; omega⟩, ⟨by show _ ≤ (0 : Int); omega, by show (0 : Int) ≤ _; omega⟩, by show ([] : List UInt8).length ≤ _; simp, ⟨by show _ ≤ n; omega, by show n ≤ _; omega⟩, by show ([] : List Ex).length ≤ _; simp⟩

theorem sV_nil : Value.string { data := #[] } = sV [] := by unfold sV; rw [sB_nil]
end Go.Proofs.YtmokejjndkibhaaGreatDoor

namespace Go.Proofs.YtmokejjndkibhaaGreatDoor
open Go.RowKit
set_option linter.unusedVariables false
set_option linter.unusedSimpArgs false
open Ex

end Go.Proofs.YtmokejjndkibhaaGreatDoor

namespace Go.Proofs.YtmokejjndkibhaaGreatDoor
open Go.RowKit
set_option linter.unusedVariables false
set_option linter.unusedSimpArgs false
open Ex

/-- the class of blocks of what the elements became -/
def Off (w₀ w : World) (g b : Nat) : Prop := (b < w₀.heap.size ∨ w.heap.size ≤ b) ∧ b ≠ g
/-- a row whose first j elements are replaced -/
def MapInv (f : Ex → Ex) (w₀ w : World) (ts : List Ex) (rs : List XE) (g : Nat) (j : Nat) (rj : List XE) (wr : World) : Prop :=
  rj.length = rs.length ∧ (∀ i (h : i < rj.length) (h2 : i < ts.length), i < j → rj[i].1 = f ts[i] ∧ AtB (Off w₀ w g) wr rj[i].2.1 (f ts[i])) ∧
  (∀ i (h : i < rj.length) (h2 : i < rs.length), j ≤ i → rj[i] = rs[i])
theorem MapInv.ext {f : Ex → Ex} {w₀ w : World} {ts : List Ex} {rs : List XE} {g j : Nat} {rj : List XE} {wr W : World} (h : MapInv f w₀ w ts rs g j rj wr) (hE : Ext wr W) : MapInv f w₀ w ts rs g j rj W :=
  ⟨h.1, fun i h1 h2 h3 => ⟨(h.2.1 i h1 h2 h3).1, (h.2.1 i h1 h2 h3).2.ext hE⟩, h.2.2⟩
theorem MapInv.step {f : Ex → Ex} {w₀ w : World} {ts : List Ex} {rs : List XE} {g j : Nat} {rj : List XE} {wr W : World} (h : MapInv f w₀ w ts rs g j rj wr) (hj : j < ts.length) (q : Option Addr) (d : Nat)
    (hk : ∀ b, b ≠ g → W.heap[b]? = wr.heap[b]?) (hA : AtB (Off w₀ w g) wr q (f ts[j])) : MapInv f w₀ w ts rs g (j + 1) (rj.set j (f ts[j], q, d)) W := by
  have hK : ∀ {p : Option Addr} {e : Ex}, AtB (Off w₀ w g) wr p e → AtB (Off w₀ w g) W p e := fun h => h.keep (fun b hb _ => ⟨hb, hk b hb.2⟩)
  refine ⟨by rw [List.length_set]; exact h.1, fun i h1 h2 h3 => ?_, fun i h1 h2 h3 => ?_⟩
  · rw [List.length_set] at h1
    by_cases e : j = i
    · subst e; rw [List.getElem_set_self]; exact ⟨rfl, hK hA⟩
    · rw [List.getElem_set_ne e]
      exact ⟨(h.2.1 i h1 h2 (by omega)).1, hK (h.2.1 i h1 h2 (by omega)).2⟩
  · rw [List.length_set] at h1
    rw [List.getElem_set_ne (by omega)]
    exact h.2.2 i h1 h2 (by omega)
/-- all elements are replaced -/
theorem MapInv.done {f : Ex → Ex} {w₀ w : World} {ts : List Ex} {rs : List XE} {g base cap : Nat} {rj : List XE} {wr W : World} {S : Nat → Prop} (h : MapInv f w₀ w ts rs g ts.length rj wr) (hl : rs.length = ts.length)
    (hrow : RowE base (.slice (some ⟨g, 0, none⟩) rj.length cap) rj wr) {k o v : Int} {n : List UInt8} (hf : fits (.mk k o n v ts)) (hS : S g) (hk : ∀ b, b = g ∨ Off w₀ w g b → b < wr.heap.size → W.heap[b]? = wr.heap[b]?) (hSS : ∀ b, Off w₀ w g b → S b) :
    AtB S W (some ⟨g, 0, none⟩) (.mk k o n v (ts.map f)) := by
  have hgl : g < wr.heap.size := (World.ownsRow.lt hrow g rfl).2
  refine ⟨?_, AtBL.of_get (fun _ => hS) (fun i hi => ?_)⟩
  · obtain ⟨f1, f2, f3, f4, f5⟩ := hf
    refine ⟨f1, f2, f3, f4, ?_⟩
    show (ts.map f).length ≤ _
    rw [List.length_map]; exact f5
  · rw [List.length_map] at hi
    have hi2 : i < rj.length := by rw [h.1, hl]; exact hi
    obtain ⟨e1, e2⟩ := h.2.1 i hi2 hi hi
    refine ⟨rj[i].2.1, rj[i].2.2, ?_, ?_⟩
    · rw [List.getElem_map, ← e1, Nat.zero_add, Nat.zero_add]
      exact (RowE.cells hrow i hi2).block (hk g (.inl rfl) hgl)
    · rw [List.getElem_map]
      exact e2.keep (fun b hb hb2 => ⟨hSS b hb, hk b (.inr hb) hb2⟩)
end Go.Proofs.YtmokejjndkibhaaGreatDoor

namespace Go.Proofs.YtmokejjndkibhaaGreatDoor
open Go.RowKit
set_option linter.unusedVariables false
set_option linter.unusedSimpArgs false
open Ex

/-- the cells of a box of five in a later world -/
theorem box5 {W : World} {B : Nat} {a0 a1 a2 a3 a4 : Value} {T : TypeId} (h : W.heap[B]? = some (.cells #[a0, a1, a2, a3, a4] T (0, 0))) :
    W.cell? ⟨B, 0, none⟩ = some a0 ∧ W.cell? ⟨B, 1, none⟩ = some a1 ∧ W.cell? ⟨B, 2, none⟩ = some a2 ∧ W.cell? ⟨B, 3, none⟩ = some a3 ∧ W.cell? ⟨B, 4, none⟩ = some a4 ∧ (∀ i, W.frozen? ⟨B, i, none⟩ = false) :=
  ⟨cell_of h rfl, cell_of h rfl, cell_of h rfl, cell_of h rfl, cell_of h rfl, fun i => free_of h⟩

/-- two boxes laid one after the other -/
theorem two_boxes (w : World) (a0 a1 a2 a3 a4 b0 b1 b2 b3 b4 : Value) (T : TypeId) :
    ((w.alloc (.cells #[a0, a1, a2, a3, a4] T)).alloc (.cells #[b0, b1, b2, b3, b4] T)).heap[w.heap.size]? = some (.cells #[a0, a1, a2, a3, a4] T (0, 0)) ∧
    ((w.alloc (.cells #[a0, a1, a2, a3, a4] T)).alloc (.cells #[b0, b1, b2, b3, b4] T)).heap[w.heap.size + 1]? = some (.cells #[b0, b1, b2, b3, b4] T (0, 0)) ∧
    Ext w ((w.alloc (.cells #[a0, a1, a2, a3, a4] T)).alloc (.cells #[b0, b1, b2, b3, b4] T)) := by
  refine ⟨(Below.heap_alloc _ _ w.heap.size (by simp)).trans (alloc_here _ _), ?_, ((Below.refl _ w).alloc (Nat.le_refl _) _).alloc (by simp) _⟩
  have h := alloc_here (w.alloc (.cells #[a0, a1, a2, a3, a4] T)) (.cells #[b0, b1, b2, b3, b4] T)
  rw [World.size_alloc] at h; exact h

end Go.Proofs.YtmokejjndkibhaaGreatDoor

