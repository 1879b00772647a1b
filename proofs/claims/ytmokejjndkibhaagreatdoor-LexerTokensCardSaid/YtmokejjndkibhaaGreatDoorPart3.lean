/- Lemmas and walks for the statements of this seat, part 3, merged from smaller texts: The reference's depth, long, Great.; The reference's Great; expr's measure, Size.; The reference's parts and Check.; Expressions with the addresses of their arguments; their parts in preorder.; visit and parts: the iterator over the parts of an expression.; parts, and Check.; Check.; The reference's Operate.; The reference's Operate.; The type and the value of an expression, plain.; Slices of integers (the part of XInts that knows no function).; Slices of integers of the call's own, to which it appends (the part of XApp that knows no function).; expr's typed.; The reference's typeOf.; Type, both.; What has a type has values in range.; expr's value.; expr's value: the walk.; The reference's eval.; Eval, both.; Expressions in blocks of a class; rows of expressions that a call owns.; slices.Clone of expressions; literals.; Literals.; The constant that an expression is; Fold's function.; mapped: the greatest parts that a function knows are replaced.; Fold of expr. -/
import Derived.RangeFuncNested
import Derived.RangeFuncBound
import Derived.RangeFuncCalls
import Derived.RangeFuncLeaves
import Derived.Shelf.Abstract
import Derived.OwnWalkIn
import Derived.TacticsInMore
import Derived.LoopNIn
import Derived.LoopIn
import Derived.Test.YtmokejjndkibhaaGreatDoorRows
import Derived.Lib.AppendStr
import Derived.Deep.OwnRows
import Derived.Lib.SmallJoins
import Derived.Maps.AppendAt
import Derived.OwnWalk
import Derived.Laws.OwnMore
import Derived.Lib.SliceRun
import Derived.Test.YtmokejjndkibhaaGreatDoorPart2
import Derived.Test.YtmokejjndkibhaaGreatDoorPart1

namespace Go.Proofs.YtmokejjndkibhaaGreatDoor
open Go.RowKit
set_option linter.unusedVariables false
set_option linter.unusedSimpArgs false
open Ex

mutual
/-- a name of more than 40 bytes -/
def Ex.long : Ex → Bool
  | .mk _ _ n _ es => decide (40 < n.length) || Ex.longs es
def Ex.longs : List Ex → Bool
  | [] => false
  | e :: es => e.long || Ex.longs es
end
theorem Ex.longs_take (es : List Ex) (j : Nat) (h : j < es.length) : longs (es.take (j + 1)) = (longs (es.take j) || (es[j]).long) := by
  induction es generalizing j with
  | nil => simp at h
  | cons e es ih =>
    cases j with
    | zero => simp [longs]
    | succ j =>
      have h' : j < es.length := by simpa using h
      rw [List.take_succ_cons, longs, ih j h', List.take_succ_cons, longs, List.getElem_cons_succ, Bool.or_assoc]
theorem Ex.longs_of_take (es : List Ex) (j : Nat) (h : longs (es.take j) = true) : longs es = true := by
  induction es generalizing j with
  | nil => simp [longs] at h
  | cons e es ih =>
    cases j with
    | zero => simp [longs] at h
    | succ j =>
      rw [List.take_succ_cons, longs, Bool.or_eq_true] at h
      rw [longs, Bool.or_eq_true]
      exact h.imp id (ih j)

set_option maxHeartbeats 1000000 in
theorem depth_any : ∀ (n : Nat) (e : Ex), e.size ≤ n → ∀ (p : Option Addr) (c : Nat) (w : World), Ex.At w p e → e.size ≤ 100 →
    Gives Tryz.prog 68 #[e.val p c] w (.int .i64 (e.height : Nat)) := by
  intro n
  induction n with
  | zero => intro e he; have := e.size_pos; omega
  | succ n ih =>
    intro e he p c w hA hm
    obtain ⟨k, o, nm, v, ts⟩ := e
    have HA := Lib.hid hA
    have hl : ts.length ≤ 2199023255488 := hA.fit.2.2.2.2
    have HS := Lib.hid (fun j (h : j < ts.length) => size_get ts j h)
    have hN : (Ex.mk k o nm v ts).size = 1 + sizes ts := rfl
    have hv : (Ex.mk k o nm v ts).val p c = .agg #[.int .i64 k, .int .i64 o, sV nm, .int .i64 v, .slice p ts.length c] := rfl
    rw [hv]
    have IH := Lib.hid ih
    clear hA hv ih
    have hh : (Ex.mk k o nm v ts).height = 1 + heights ts := rfl
    rw [hh]
    have hb : heights ts ≤ sizes ts := heights_le ts
    clear hh
    have HT := Lib.hid (heights_take ts)
    have HB := Lib.hid (fun j => Nat.le_trans (heights_le (ts.take j)) (sizes_mono ts j))
    unfold Gives
    go_enter Tryz.func68, Tryz.ntmps68
    go_wp2
    go_loopw [3, 4] (fun a i wr => ∃ (j : Nat), j ≤ ts.length ∧ a = .int .i64 (heights (ts.take j) : Nat) ∧ i = .int .i64 (j : Int) ∧ Ext (w.alloc (.cells #[.int .i64 k, .int .i64 o, sV nm, .int .i64 v, .slice p ts.length c] 25)) wr) (fun _ i _ => ts.length - (intOf i).toNat)
    case atStart => exact ⟨0, Nat.zero_le _, rfl, rfl, Below.refl _ _⟩
    case round =>
      obtain ⟨j, hj, rfl, rfl, hE⟩ := hrel
      obtain ⟨b0, b1, b2, b3, b4, hW⟩ := hE.box
      have HE := Lib.hid hE
      clear hE
      have hbj := HB.out j
      by_cases hlt : j < ts.length
      · obtain ⟨b, off, q, cc, rfl, hcs, hA0⟩ := HA.out.get j hlt
        obtain ⟨c0, c1, c2, c3, c4⟩ := hcs.below hW
        have hA := hA0.below hW
        clear hcs
        have hs := HS.out j hlt
        have ht := HT.out j hlt
        have C := IH.out (ts[j]) (by omega) q cc wr hA (by omega)
        have hle := height_le (ts[j])
        unfold Gives at C
        change Calls _ _ #[.agg #[.int .i64 (ts[j]).kind, .int .i64 (ts[j]).op, sV (ts[j]).name, .int .i64 (ts[j]).value, .slice q (ts[j]).args.length cc]] _ _ at C
        generalize (ts[j]).kind = k1 at *
        generalize (ts[j]).op = o1 at *
        generalize (ts[j]).name = n1 at *
        generalize (ts[j]).value = v1 at *
        generalize (ts[j]).args.length = l1 at *
        generalize (ts[j]).size = s1 at *
        generalize (ts[j]).height = g1 at *
        generalize heights (ts.take j) = g0 at *
        have HG := Lib.hid ht
        clear ht
        clear hA
        go_wp2_with fail
        refine C.mono ?_
        rintro e w2 ⟨rfl, hB2⟩
        by_cases hgt : g0 < g1
        · have hg := Lib.hid (show heights (ts.take (j + 1)) = g1 by have := HG.out; omega)
          go_wp2
          go_roundw
          case rel => exact ⟨j + 1, by omega, by rw [hg.out], by go_num, Ext.trans HE.out hB2⟩
          case measure => simp [intOf]; omega
        · have hg := Lib.hid (show heights (ts.take (j + 1)) = g0 by have := HG.out; omega)
          go_wp2
          go_roundw
          case rel => exact ⟨j + 1, by omega, by rw [hg.out], by go_num, Ext.trans HE.out hB2⟩
          case measure => simp [intOf]; omega
      · have hk : ts.take j = ts := List.take_of_length_le (by omega)
        have HZ := Lib.hid (show heights ts = heights (ts.take j) by rw [hk])
        clear hk
        generalize heights (ts.take j) = g0 at *
        go_wp2
        go_ret
        exact ⟨by rw [HZ.out]; go_num, hW⟩

end Go.Proofs.YtmokejjndkibhaaGreatDoor

namespace Go.Proofs.YtmokejjndkibhaaGreatDoor
open Go.RowKit
set_option linter.unusedVariables false
set_option linter.unusedSimpArgs false
open Ex

/-- larger than the statements examine -/
def Ex.great (e : Ex) : Bool := decide (40 < e.size ∧ e.size ≤ 100) || (decide (e.size ≤ 40) && e.long)

/-- a number in a block of its own -/
abbrev numO (m : Nat) : Obj := .cells #[.int .i64 (m : Int)] 3
theorem num_succ (m : Nat) : numO (m + 1) = .cells #[.int .i64 ((m : Int) + 1)] 3 := by unfold numO; rw [Int.natCast_add]; rfl

set_option maxHeartbeats 2000000 in
theorem measure_any (w0 : World) : ∀ (n : Nat) (e : Ex), e.size ≤ n → ∀ (p : Option Addr) (c m d g : Nat) (D : Int) (w : World), D = d → Ex.At w0 p e → Ext w0 w → w0.heap.size ≤ g → w.heap[g]? = some (numO m) → m ≤ 100 → 1 ≤ d → d ≤ m + 1 →
    Calls Tryz.prog 62 #[e.val p c, .int .i64 D, .pointer (some ⟨g, 0, none⟩)] w fun x w' => ∃ r m1 : Nat, x = .returned (.int .i64 (r : Int)) ∧ Turn g (numO m1) w w' ∧ m1 ≤ 101 ∧ r ≤ 101 ∧ (m + e.size ≤ 100 → m1 = m + e.size ∧ r + 1 = d + e.height) ∧ (100 < m + e.size → 100 < m1) := by
  intro n
  induction n with
  | zero => intro e he; have := e.size_pos; omega
  | succ n ih =>
    intro e he p c m d g D w hD hA hE0 hg hgm hm hd hdm
    subst hD
    obtain ⟨k, o, nm, v, ts⟩ := e
    have HA := Lib.hid hA
    have hl : ts.length ≤ 2199023255488 := hA.fit.2.2.2.2
    have HS := Lib.hid (fun j (h : j < ts.length) => size_get ts j h)
    have hN : (Ex.mk k o nm v ts).size = 1 + sizes ts := rfl
    have hv : (Ex.mk k o nm v ts).val p c = .agg #[.int .i64 k, .int .i64 o, sV nm, .int .i64 v, .slice p ts.length c] := rfl
    rw [hv]
    have IH := Lib.hid ih
    clear hA hv ih
    have hh : (Ex.mk k o nm v ts).height = 1 + heights ts := rfl
    rw [hh]
    clear hh
    have HT := Lib.hid (sizes_take ts)
    have HU := Lib.hid (heights_take ts)
    have HM := Lib.hid (sizes_mono ts)
    have hglt := lt_of_block hgm
    have hgc : w.cell? ⟨g, 0, none⟩ = some (.int .i64 (m : Int)) := cell_of hgm rfl
    have hgf : w.frozen? ⟨g, 0, none⟩ = false := free_of hgm
    have T0 := Lib.hid (Turn.refl hgm)
    have HE0 := Lib.hid hE0
    clear hgm hE0
    by_cases hmm : m = 100
    · subst hmm
      have HN2 : 100 < 100 + (1 + sizes ts) := by omega
      go_enter Tryz.func62, Tryz.ntmps62
      go_wp2
      go_ret
      exact ⟨d, 101, rfl, ((show Turn g (numO 101) w _ from T0.out.setCell (i := 0) (.int .i64 101)).alloc _), Nat.le_refl _, by omega, by omega, by omega⟩
    · have T1 := Lib.hid ((show Turn g (numO (m + 1)) w (w.setCell ⟨g, 0, none⟩ (.int .i64 ((m : Int) + 1))) by rw [num_succ]; exact T0.out.setCell (i := 0) (.int .i64 ((m : Int) + 1))).alloc (.cells #[.int .i64 k, .int .i64 o, sV nm, .int .i64 v, .slice p ts.length c] 25))
      go_enter Tryz.func62, Tryz.ntmps62
      go_wp2
      go_loopw [7, 28] (fun a i wr => ∃ (r m1 j : Nat), j ≤ ts.length ∧ a = .int .i64 (r : Int) ∧ i = .int .i64 (j : Int) ∧ Turn g (numO m1) w wr ∧ m1 ≤ 101 ∧ r ≤ 101 ∧ d ≤ m1 ∧ (m + 1 + sizes (ts.take j) ≤ 100 → m1 = m + 1 + sizes (ts.take j) ∧ r = d + heights (ts.take j)) ∧ (100 < m + 1 + sizes (ts.take j) → 100 < m1)) (fun _ i _ => ts.length - (intOf i).toNat)
      case atStart => exact ⟨d, m + 1, 0, Nat.zero_le _, rfl, rfl, T1.out, by omega, by omega, by omega, by simp [sizes, heights], by simp [sizes]⟩
      case round =>
        obtain ⟨r, m1, j, hj, rfl, rfl, hT, hm1, hr, hdm1, h1, h2⟩ := hrel
        have HT1 := Lib.hid hT
        have hcell : wr.cell? ⟨g, 0, none⟩ = some (.int .i64 (m1 : Int)) := cell_of hT.here rfl
        have hne : g < wr.heap.size := cell_lt' hcell
        have hW : Ext w0 wr := Below.trans HE0.out (hT.below hg (HE0.out.size)) 
        clear hT
        by_cases hlt : j < ts.length
        · obtain ⟨b, off, q, cc, rfl, hcs, hA0⟩ := HA.out.get j hlt
          obtain ⟨c0, c1, c2, c3, c4⟩ := hcs.below hW
          have hA := hA0.below hW
          clear hcs
          have hs := HS.out j hlt
          have ht := HT.out j hlt
          have hu := HU.out j hlt
          have hmo := HM.out (j + 1)
          by_cases h100 : 100 < m1
          · go_wp2
            go_ret
            exact ⟨r, m1, rfl, HT1.out.alloc _, hm1, hr, by omega, by omega⟩
          · have C := IH.out (ts[j]) (by omega) q cc m1 (d + 1) g ((d : Int) + 1)
            have C1 := Lib.hid (fun W h1 h2 => show Calls _ _ #[.agg #[.int .i64 (ts[j]).kind, .int .i64 (ts[j]).op, sV (ts[j]).name, .int .i64 (ts[j]).value, .slice q (ts[j]).args.length cc], _, _] _ _ from C W (by omega) hA0 h1 hg h2 (by omega) (by omega) (by omega))
            clear C hA hA0
            have HTA := Lib.hid (HT1.out.alloc (.cells #[.int .i64 (ts[j]).kind, .int .i64 (ts[j]).op, sV (ts[j]).name, .int .i64 (ts[j]).value, .slice q (ts[j]).args.length cc] 25))
            have HWA := Lib.hid (hW.alloc (Nat.le_trans HE0.out.size HT1.out.size) (.cells #[.int .i64 (ts[j]).kind, .int .i64 (ts[j]).op, sV (ts[j]).name, .int .i64 (ts[j]).value, .slice q (ts[j]).args.length cc] 25))
            clear hW
            generalize (ts[j]).kind = k1 at *
            generalize (ts[j]).op = o1 at *
            generalize (ts[j]).name = n1 at *
            generalize (ts[j]).value = v1 at *
            generalize (ts[j]).args.length = l1 at *
            generalize (ts[j]).size = s1 at *
            generalize (ts[j]).height = g1 at *
            go_wp2_with fail
            refine (C1.out _ HWA.out HTA.out.here).mono ?_
            rintro e w2 ⟨r2, m2, rfl, hT2, q1, q2, q3, q4⟩
            have HT2 := Lib.hid (HTA.out.trans hT2)
            clear hT2
            by_cases hgt : r < r2
            · skip
              go_wp2
              go_roundw
              case rel => exact ⟨r2, m2, j + 1, by omega, rfl, by go_num, HT2.out, q1, q2, by omega, by omega, by omega⟩
              case measure => simp [intOf]; omega
            · skip
              go_wp2
              go_roundw
              case rel => exact ⟨r, m2, j + 1, by omega, rfl, by go_num, HT2.out, q1, by omega, by omega, by omega, by omega⟩
              case measure => simp [intOf]; omega
        · have hk : ts.take j = ts := List.take_of_length_le (by omega)
          rw [hk] at h1 h2
          go_wp2
          go_ret
          exact ⟨r, m1, rfl, HT1.out, hm1, hr, by omega, by omega⟩

end Go.Proofs.YtmokejjndkibhaaGreatDoor

namespace Go.Proofs.YtmokejjndkibhaaGreatDoor
open Go.RowKit
set_option linter.unusedVariables false
set_option linter.unusedSimpArgs false
open Ex

mutual
/-- the first error of a part, in preorder -/
def Ex.fe : Ex → Int
  | .mk k o n v es => if pc' k o n v es.length ≠ 0 then pc' k o n v es.length else Ex.fes es
def Ex.fes : List Ex → Int
  | [] => 0
  | e :: es => if e.fe ≠ 0 then e.fe else Ex.fes es
end
theorem Ex.fes_no (es : List Ex) (j : Nat) (h : j < es.length) (h0 : fes (es.take j) = 0) (h1 : (es[j]).fe ≠ 0) : fes es = (es[j]).fe := by
  induction es generalizing j with
  | nil => simp at h
  | cons e es ih =>
    cases j with
    | zero => simp only [fes, List.getElem_cons_zero] at *; rw [if_pos h1]
    | succ j =>
      have h' : j < es.length := by simpa using h
      rw [List.take_succ_cons, fes] at h0
      by_cases e0 : e.fe = 0
      · rw [if_neg (by simp [e0])] at h0
        rw [fes, if_neg (by simp [e0])]
        simpa using ih j h' h0 (by simpa using h1)
      · rw [if_pos e0] at h0; exact absurd h0 e0
theorem Ex.fes_yes (es : List Ex) (j : Nat) (h : j < es.length) (h0 : fes (es.take j) = 0) (h1 : (es[j]).fe = 0) : fes (es.take (j + 1)) = 0 := by
  induction es generalizing j with
  | nil => simp at h
  | cons e es ih =>
    cases j with
    | zero => simp only [List.getElem_cons_zero] at h1; simp [fes, h1]
    | succ j =>
      have h' : j < es.length := by simpa using h
      rw [List.take_succ_cons, fes] at h0 ⊢
      by_cases e0 : e.fe = 0
      · rw [if_neg (by simp [e0])] at h0 ⊢
        exact ih j h' h0 (by simpa using h1)
      · rw [if_pos e0] at h0; exact absurd h0 e0
/-- why an expression is not valid -/
def Ex.chk (e : Ex) : Int := if 100 < e.size then 4 else if 12 < e.height then 22 else e.fe

set_option maxHeartbeats 1000000 in
theorem parts_any : ∀ (n : Nat) (e : Ex), e.size ≤ n → ∀ (p : Option Addr) (c : Nat) (w : World), Ex.At w p e →
    Gives Tryz.prog 69 #[e.val p c] w (.int .i64 e.fe) := by
  intro n
  induction n with
  | zero => intro e he; have := e.size_pos; omega
  | succ n ih =>
    intro e he p c w hA
    have P1 := Lib.hid (fun W => show Gives _ _ #[.agg #[.int .i64 e.kind, .int .i64 e.op, sV e.name, .int .i64 e.value, .slice p e.args.length c]] _ _ from part_any e p c W hA.fit)
    obtain ⟨k, o, nm, v, ts⟩ := e
    have HA := Lib.hid hA
    have hl : ts.length ≤ 2199023255488 := hA.fit.2.2.2.2
    have HS := Lib.hid (fun j (h : j < ts.length) => size_get ts j h)
    have hN : (Ex.mk k o nm v ts).size = 1 + sizes ts := rfl
    have hv : (Ex.mk k o nm v ts).val p c = .agg #[.int .i64 k, .int .i64 o, sV nm, .int .i64 v, .slice p ts.length c] := rfl
    rw [hv]
    have IH := Lib.hid ih
    clear hA hv ih
    have hh : (Ex.mk k o nm v ts).fe = if pc' k o nm v ts.length ≠ 0 then pc' k o nm v ts.length else fes ts := rfl
    have hpc : pc (Ex.mk k o nm v ts) = pc' k o nm v ts.length := rfl
    rw [hpc] at P1
    simp only [Ex.kind, Ex.op, Ex.name, Ex.value, Ex.args] at P1
    rw [hh]
    clear hh hpc
    have HT := Lib.hid (fes_yes ts)
    have HO := Lib.hid (fes_no ts)
    generalize pc' k o nm v ts.length = x at *
    unfold Gives
    by_cases hx : x = 0
    · subst hx
      have HZ := Lib.hid (show (if (0 : Int) ≠ 0 then 0 else fes ts) = fes ts by simp)
      rw [HZ.out]
      generalize hfs : fes ts = fs at *
      have HF := Lib.hid hfs
      clear hfs HZ
      go_enter Tryz.func69, Tryz.ntmps69
      go_wp2_with fail
      refine (P1.out _).mono ?_
      intro w1 hB1
      have HB1 := Lib.hid hB1
      clear hB1
      go_wp2
      go_loopw [4] (fun i wr => ∃ (j : Nat), j ≤ ts.length ∧ i = .int .i64 (j : Int) ∧ fes (ts.take j) = 0 ∧ Ext (w.alloc (.cells #[.int .i64 k, .int .i64 o, sV nm, .int .i64 v, .slice p ts.length c] 25)) wr) (fun i _ => ts.length - (intOf i).toNat)
      case atStart => exact ⟨0, Nat.zero_le _, rfl, rfl, HB1.out⟩
      case round =>
        obtain ⟨j, hj, rfl, hl0, hE⟩ := hrel
        obtain ⟨b0, b1, b2, b3, b4, hW⟩ := hE.box
        have HE := Lib.hid hE
        clear hE
        have HL := Lib.hid hl0
        clear hl0
        by_cases hlt : j < ts.length
        · obtain ⟨b, off, q, cc, rfl, hcs, hA0⟩ := HA.out.get j hlt
          obtain ⟨c0, c1, c2, c3, c4⟩ := hcs.below hW
          have hA := hA0.below hW
          clear hcs
          have hs := HS.out j hlt
          have C := IH.out (ts[j]) (by omega) q cc wr hA
          unfold Gives at C
          change Calls _ _ #[.agg #[.int .i64 (ts[j]).kind, .int .i64 (ts[j]).op, sV (ts[j]).name, .int .i64 (ts[j]).value, .slice q (ts[j]).args.length cc]] _ _ at C
          have HN := Lib.hid (HO.out j hlt HL.out)
          have HY := Lib.hid (HT.out j hlt HL.out)
          generalize (ts[j]).kind = k1 at *
          generalize (ts[j]).op = o1 at *
          generalize (ts[j]).name = n1 at *
          generalize (ts[j]).value = v1 at *
          generalize (ts[j]).args.length = l1 at *
          generalize (ts[j]).size = s1 at *
          generalize (ts[j]).fe = f1 at *
          clear hA
          by_cases hg : f1 = 0
          · have HY2 := Lib.hid (HY.out hg)
            subst hg
            go_wp2_with fail
            refine C.mono ?_
            rintro e w2 ⟨rfl, hB2⟩
            go_wp2
            go_roundw
            case rel => exact ⟨j + 1, by omega, by go_num, HY2.out, Ext.trans HE.out hB2⟩
            case measure => simp [intOf]; omega
          · have HN2 := Lib.hid (HN.out hg)
            have hga : (f1 == 0) = false := by rw [beq_eq_false_iff_ne]; omega
            have hgb : (f1 != 0) = true := by rw [bne_iff_ne]; omega
            go_wp2_with fail
            refine C.mono ?_
            rintro e w2 ⟨rfl, hB2⟩
            go_wp2
            go_ret
            exact ⟨by rw [HN2.out]; rfl, Ext.trans hW hB2⟩
        · have hk : ts.take j = ts := List.take_of_length_le (by omega)
          rw [hk] at HL
          go_wp2
          go_ret
          exact ⟨by rw [← HF.out, HL.out]; rfl, hW⟩
    · have HZ := Lib.hid (show (if x ≠ 0 then x else fes ts) = x by rw [if_pos hx])
      rw [HZ.out]
      clear HZ
      have hga : (x == 0) = false := by rw [beq_eq_false_iff_ne]; omega
      have hgb : (x != 0) = true := by rw [bne_iff_ne]; omega
      go_enter Tryz.func69, Tryz.ntmps69
      go_wp2_with fail
      refine (P1.out _).mono ?_
      intro w1 hB1
      go_wp2
      go_ret
      exact ⟨rfl, Ext.trans ((Below.refl _ w).alloc (Nat.le_refl _) _) hB1⟩

theorem refChk_any (e : Ex) (p : Option Addr) (c : Nat) (w : World) (hA : Ex.At w p e) : Gives Tryz.prog 38 #[e.val p c] w (.int .i64 e.chk) := by
  have C1 := Lib.hid (fun W (h : Ext w W) => show Gives _ _ #[.agg #[.int .i64 e.kind, .int .i64 e.op, sV e.name, .int .i64 e.value, .slice p e.args.length c]] _ _ from refSize_any e p c W (hA.below h))
  have C2 := Lib.hid (fun W (h : Ext w W) hs => show Gives _ _ #[.agg #[.int .i64 e.kind, .int .i64 e.op, sV e.name, .int .i64 e.value, .slice p e.args.length c]] _ _ from depth_any e.size e (Nat.le_refl _) p c W (hA.below h) hs)
  have C3 := Lib.hid (fun W (h : Ext w W) => show Gives _ _ #[.agg #[.int .i64 e.kind, .int .i64 e.op, sV e.name, .int .i64 e.value, .slice p e.args.length c]] _ _ from parts_any e.size e (Nat.le_refl _) p c W (hA.below h))
  have hh := Lib.hid (show e.chk = if 100 < e.size then 4 else if 12 < e.height then 22 else e.fe from rfl)
  have hle := height_le e
  unfold Ex.val
  generalize e.kind = k1 at *
  generalize e.op = o1 at *
  generalize e.name = n1 at *
  generalize e.value = v1 at *
  generalize e.args.length = l1 at *
  generalize e.size = s1 at *
  generalize e.height = g1 at *
  generalize e.fe = f1 at *
  generalize e.chk = r at *
  clear hA
  unfold Gives
  by_cases h1 : 100 < s1
  · have HZ := Lib.hid (show r = 4 by rw [hh.out, if_pos h1])
    have hm : min s1 101 = 101 := by omega
    rw [hm] at C1
    clear hm hh
    go_enter Tryz.func38, Tryz.ntmps38
    go_wp2_with fail
    refine (C1.out _ ((Below.refl _ w).alloc (Nat.le_refl _) _)).mono ?_
    intro w1 hB
    go_wp2
    go_ret
    exact ⟨by rw [HZ.out]; rfl, Ext.trans ((Below.refl _ w).alloc (Nat.le_refl _) _) hB⟩
  · have hm : min s1 101 = s1 := by omega
    rw [hm] at C1
    clear hm
    by_cases h2 : 12 < g1
    · have HZ := Lib.hid (show r = 22 by rw [hh.out, if_neg h1, if_pos h2])
      clear hh
      go_enter Tryz.func38, Tryz.ntmps38
      go_wp2_with fail
      refine (C1.out _ ((Below.refl _ w).alloc (Nat.le_refl _) _)).mono ?_
      intro w1 hB
      obtain ⟨b0, b1, b2, b3, b4, hW⟩ := Ext.box hB
      have HW := Lib.hid hW
      clear hB C1 hW
      go_wp2_with fail
      refine (C2.out _ HW.out (by omega)).mono ?_
      intro w2 hB
      go_wp2
      go_ret
      exact ⟨by rw [HZ.out]; rfl, Ext.trans HW.out hB⟩
    · have HZ := Lib.hid (show r = f1 by rw [hh.out, if_neg h1, if_neg h2])
      clear hh
      go_enter Tryz.func38, Tryz.ntmps38
      go_wp2_with fail
      refine (C1.out _ ((Below.refl _ w).alloc (Nat.le_refl _) _)).mono ?_
      intro w1 hB
      have HB := Lib.hid hB
      obtain ⟨b0, b1, b2, b3, b4, hW⟩ := Ext.box hB
      have HW := Lib.hid hW
      clear hB C1 hW
      go_wp2_with fail
      refine (C2.out _ HW.out (by omega)).mono ?_
      intro w2 hB
      obtain ⟨b0, b1, b2, b3, b4, hW⟩ := Ext.box (Ext.trans HB.out hB)
      have HW2 := Lib.hid hW
      clear hB C2 hW
      go_wp2_with fail
      refine (C3.out _ HW2.out).mono ?_
      intro w3 hB
      go_wp2
      go_ret
      exact ⟨by rw [HZ.out]; rfl, Ext.trans HW2.out hB⟩

end Go.Proofs.YtmokejjndkibhaaGreatDoor

namespace Go.Proofs.YtmokejjndkibhaaGreatDoor
open Go.RowKit
set_option linter.unusedVariables false
set_option linter.unusedSimpArgs false

inductive PEx where
  | mk (k o : Int) (n : List UInt8) (v : Int) (p : Option Addr) (c : Nat) (ts : List PEx)
namespace PEx
mutual
def er : PEx → Ex
  | .mk k o n v _ _ ts => .mk k o n v (ers ts)
def ers : List PEx → List Ex
  | [] => []
  | d :: ds => d.er :: ers ds
end
def ptr : PEx → Option Addr | .mk _ _ _ _ p _ _ => p
def cap : PEx → Nat | .mk _ _ _ _ _ c _ => c
def args : PEx → List PEx | .mk _ _ _ _ _ _ ts => ts
def val (d : PEx) : Value := d.er.val d.ptr d.cap
mutual
/-- the parts in preorder -/
def pre : PEx → List PEx
  | .mk k o n v p c ts => .mk k o n v p c ts :: pres ts
def pres : List PEx → List PEx
  | [] => []
  | d :: ds => d.pre ++ pres ds
end
theorem ers_length (ts : List PEx) : (ers ts).length = ts.length := by
  induction ts with
  | nil => rfl
  | cons d ts ih => simp [ers, ih]
theorem ers_get (ts : List PEx) (j : Nat) (h : j < ts.length) : (ers ts)[j]'(by rw [ers_length]; exact h) = (ts[j]).er := by
  induction ts generalizing j with
  | nil => simp at h
  | cons d ts ih => cases j with
    | zero => simp [ers]
    | succ j => simp only [ers, List.getElem_cons_succ]; exact ih j (by simpa using h)
theorem pres_snoc (ts : List PEx) (d : PEx) : pres (ts ++ [d]) = pres ts ++ d.pre := by
  induction ts with
  | nil => simp [pres]
  | cons x ts ih => simp only [List.cons_append, pres, ih, List.append_assoc]
theorem pres_take (ts : List PEx) (j : Nat) (h : j < ts.length) : pres (ts.take (j + 1)) = pres (ts.take j) ++ (ts[j]).pre := by
  rw [List.take_succ_eq_append_getElem h, pres_snoc]
theorem pres_prefix (ts : List PEx) (j : Nat) : pres (ts.take j) <+: pres ts := by
  induction ts generalizing j with
  | nil => simp
  | cons d ts ih => cases j with
    | zero => simp [pres]
    | succ j => simp only [List.take_succ_cons, pres]; obtain ⟨r, hr⟩ := ih j; exact ⟨r, by rw [List.append_assoc, hr]⟩
mutual
theorem pre_length : ∀ d : PEx, d.pre.length = d.er.size
  | .mk k o n v p c ts => by simp only [pre, er, Ex.size, List.length_cons, pres_length ts]; omega
theorem pres_length : ∀ ts : List PEx, (pres ts).length = Ex.sizes (ers ts)
  | [] => rfl
  | d :: ds => by simp only [pres, ers, Ex.sizes, List.length_append, pre_length d, pres_length ds]
end
mutual
/-- the arguments lie where d says, in blocks below n₀ -/
def PAt (n₀ : Nat) (w : World) : PEx → Prop
  | .mk k o n v p c ts => Ex.fits (.mk k o n v (ers ts)) ∧ PAtL n₀ w p 0 ts
def PAtL (n₀ : Nat) (w : World) (p : Option Addr) (i : Nat) : List PEx → Prop
  | [] => True
  | d :: ds => (∃ b o, p = some ⟨b, o, none⟩ ∧ b < n₀ ∧ Ex.cells w b (o + i * 5) d.er d.ptr d.cap ∧ PAt n₀ w d) ∧ PAtL n₀ w p (i + 1) ds
end
theorem PAt.fit {n₀ : Nat} {w : World} {d : PEx} (h : PAt n₀ w d) : Ex.fits d.er := by cases d; exact h.1
theorem PAtL.get {n₀ : Nat} {w : World} {p : Option Addr} {ts : List PEx} : ∀ {i : Nat}, PAtL n₀ w p i ts → ∀ j (h : j < ts.length), ∃ b o, p = some ⟨b, o, none⟩ ∧ b < n₀ ∧ Ex.cells w b (o + (i + j) * 5) (ts[j]).er (ts[j]).ptr (ts[j]).cap ∧ PAt n₀ w ts[j] := by
  induction ts with
  | nil => intro i h j hj; simp at hj
  | cons d ts ih =>
    intro i h j hj
    obtain ⟨h1, h2⟩ := h
    cases j with
    | zero => exact h1
    | succ j =>
      obtain ⟨b, o, e1, e2, e3, e4⟩ := ih h2 j (by simpa using hj)
      exact ⟨b, o, e1, e2, by rw [show i + (j + 1) = i + 1 + j by omega]; exact e3, e4⟩
theorem cells_low {n₀ : Nat} {w W : World} {b o : Nat} {e : Ex} {p : Option Addr} {c : Nat} (h : Ex.cells w b o e p c) (hb : b < n₀) (hB : Below n₀ w W) : Ex.cells W b o e p c := by
  obtain ⟨h0, h1, h2, h3, h4⟩ := h
  exact ⟨(hB.cell (p := ⟨b, o, none⟩) hb).trans h0, (hB.cell (p := ⟨b, o + 1, none⟩) hb).trans h1, (hB.cell (p := ⟨b, o + 2, none⟩) hb).trans h2, (hB.cell (p := ⟨b, o + 3, none⟩) hb).trans h3, (hB.cell (p := ⟨b, o + 4, none⟩) hb).trans h4⟩
mutual
theorem PAt.low {n₀ : Nat} {w W : World} (hB : Below n₀ w W) : ∀ {d : PEx}, PAt n₀ w d → PAt n₀ W d
  | .mk _ _ _ _ _ _ _, h => ⟨h.1, PAtL.low hB h.2⟩
theorem PAtL.low {n₀ : Nat} {w W : World} (hB : Below n₀ w W) : ∀ {p : Option Addr} {i : Nat} {ts : List PEx}, PAtL n₀ w p i ts → PAtL n₀ W p i ts
  | _, _, [], _ => trivial
  | _, _, _ :: _, ⟨⟨b, o, e1, e2, e3, e4⟩, h2⟩ => ⟨⟨b, o, e1, e2, cells_low e3 e2 hB, PAt.low hB e4⟩, PAtL.low hB h2⟩
end
mutual
theorem of_at {w : World} : ∀ {e : Ex} {p : Option Addr} (c : Nat), Ex.At w p e → ∃ d : PEx, d.er = e ∧ d.ptr = p ∧ d.cap = c ∧ PAt w.heap.size w d
  | .mk k o n v ts, p, c, h => by
    obtain ⟨ds, h1, h2⟩ := of_atL h.2
    exact ⟨.mk k o n v p c ds, by simp [er, h1], rfl, rfl, by simp only [PAt, h1]; exact h.1, h2⟩
theorem of_atL {w : World} : ∀ {ts : List Ex} {p : Option Addr} {i : Nat}, Ex.AtL w p i ts → ∃ ds : List PEx, ers ds = ts ∧ PAtL w.heap.size w p i ds
  | [], _, _, _ => ⟨[], rfl, trivial⟩
  | t :: ts, p, i, ⟨⟨b, o, q, c, e1, e2, e3⟩, h2⟩ => by
    obtain ⟨d, hd1, hd2, hd3, hd4⟩ := of_at c e3
    obtain ⟨ds, hs1, hs2⟩ := of_atL h2
    exact ⟨d :: ds, by simp [ers, hd1, hs1], ⟨b, o, e1, Ex.cell_lt' e2.1, by rw [hd1, hd2, hd3]; exact e2, hd4⟩, hs2⟩
end
/-- the first error among parts -/
def ferr : List PEx → Int
  | [] => 0
  | d :: ds => if pc d.er ≠ 0 then pc d.er else ferr ds
theorem ferr_app (a b : List PEx) : ferr (a ++ b) = if ferr a ≠ 0 then ferr a else ferr b := by
  induction a with
  | nil => simp [ferr]
  | cons d a ih =>
    simp only [List.cons_append, ferr, ih]
    by_cases h : pc d.er = 0 <;> simp [h]
mutual
theorem ferr_pre : ∀ d : PEx, ferr d.pre = d.er.fe
  | .mk k o n v p c ts => by
    simp only [pre, ferr, er, Ex.fe, ferr_pres ts]
    simp only [pc, Ex.kind, Ex.op, Ex.name, Ex.value, Ex.args]
    rfl
theorem ferr_pres : ∀ ts : List PEx, ferr (pres ts) = Ex.fes (ers ts)
  | [] => rfl
  | d :: ds => by simp only [pres, ferr_app, ers, Ex.fes, ferr_pre d, ferr_pres ds]
end
end PEx

end Go.Proofs.YtmokejjndkibhaaGreatDoor

namespace Go.Proofs.YtmokejjndkibhaaGreatDoor
open Go.RowKit
set_option linter.unusedVariables false
set_option linter.unusedSimpArgs false
attribute [local go_sem] Oper.semAt_some

/-- blocks of cells of type T stay -/
def KeepT (T : TypeId) (W W' : World) : Prop := W.heap.size ≤ W'.heap.size ∧ ∀ (j : Nat) (c : Array Value) (f : Nat × Nat), W.heap[j]? = some (.cells c T f) → W'.heap[j]? = some (.cells c T f)
theorem KeepT.refl (T : TypeId) (W : World) : KeepT T W W := ⟨Nat.le_refl _, fun _ _ _ h => h⟩
theorem KeepT.trans {T : TypeId} {a b c : World} (h : KeepT T a b) (g : KeepT T b c) : KeepT T a c := ⟨Nat.le_trans h.1 g.1, fun j x f hx => g.2 j x f (h.2 j x f hx)⟩
theorem KeepT.of_ext {T : TypeId} {W W' : World} (h : Ext W W') : KeepT T W W' := ⟨h.size, fun j c f hx => (h.below.block j (lt_of_block hx)).trans hx⟩
/-- what the iterator asks of a round -/
def Kx (n₀ : Nat) (W W' : World) : Prop := Below n₀ W W' ∧ KeepT tEx W W'
theorem Kx.refl (n₀ : Nat) (W : World) : Kx n₀ W W := ⟨Below.refl _ _, KeepT.refl _ _⟩
theorem Kx.trans {n₀ : Nat} {a b c : World} (h : Kx n₀ a b) (g : Kx n₀ b c) : Kx n₀ a c := ⟨h.1.trans g.1, h.2.trans g.2⟩
theorem Kx.of_ext {n₀ : Nat} {W W' : World} (h : Ext W W') (hn : n₀ ≤ W.heap.size) : Kx n₀ W W' := ⟨h.below.mono hn, KeepT.of_ext h⟩
theorem Kx.putObj {n₀ : Nat} {w : World} (hn : n₀ ≤ w.heap.size) (W : World) (l : Nat) (o o' : Obj) (hl : w.heap.size ≤ l) (h : W.heap[l]? = some o) (h1 : o.isCells = false) (h2 : o.isWalk = false) : Kx n₀ W (W.putObj l o') := by
  refine ⟨belowK_b hn W l o o' hl h h1 h2, by simp, fun j c f hx => ?_⟩
  have hne : j ≠ l := by
    rintro rfl
    rw [h] at hx; cases hx; cases h1
  exact (World.putObj_heap_other hne).trans hx
theorem abides_alloc {β : Type} {B : Nat} {J : β → World → Prop} (hJ : AbidesFrom B J) {s : β} {W : World} (o : Obj) (h : J s W) : J s (W.alloc o) := hJ s W _ none h (World.grownBy_alloc W o none) (fun r e => by cases e)
theorem YieldAt.any {F : Fence} (hd : F.depth = none) {m : Nat} (m' : Nat) {P : Program} {l : Nat} {args : Array Value} {W : World} {R : Ending → World → Prop} (h : YieldAt F m P l args W R) : YieldAt F m' P l args W R := by
  obtain ⟨fn, tmps, assign, body, hy, hR⟩ := h
  exact ⟨fn, tmps, assign, body, hy, hR.1, fun c cs _ => hR.2 c cs (fun d h => by rw [hd] at h; cases h)⟩

set_option maxRecDepth 100000 in
set_option maxHeartbeats 4000000 in
theorem visit_in (F : Fence) (hd : F.depth = none) (hv : F.fn 88) (hro : F.round = none) (l n₀ N A : Nat) (J Jx : List PEx → World → Prop) (hJ : AbidesFrom A J)
    (hY : ∀ m pre x W, J pre W → pre.length < N → Ex.fits x.er → YieldAt F m Tryz.prog l #[x.val] W fun e W' =>
      (e = .returned (.bool true) ∧ J (pre ++ [x]) W' ∧ Kx n₀ W W') ∨ (e = .returned (.bool false) ∧ Jx (pre ++ [x]) W')) :
    ∀ (s : Nat) (d : PEx), d.er.size ≤ s → ∀ (n : Nat) (pre : List PEx) (W : World), PEx.PAt n₀ W d → J pre W → n₀ ≤ W.heap.size → pre.length + d.pre.length ≤ N →
      CallsIn F n Tryz.prog 88 #[d.val, .func (.yield l) #[] #[]] W fun e W' =>
        (e = .returned (.bool true) ∧ J (pre ++ d.pre) W' ∧ Kx n₀ W W') ∨ (e = .returned (.bool false) ∧ ∃ q, q <+: d.pre ∧ Jx (pre ++ q) W') := by
  intro s
  induction s with
  | zero => intro d hs; have := d.er.size_pos; omega
  | succ s ih =>
    intro d hs n pre W hP hJ0 hn0 hN
    have hdd : ∀ k : Nat, (F.depth.isSome = true → 1 ≤ k) := fun k h => by rw [hd] at h; cases h
    have hfit := hP.fit
    have hyd := hY (n - 1) pre d
    obtain ⟨k, o, nm, v, p, c, ts⟩ := d
    have hl : ts.length ≤ 2199023255488 := by have := hfit.2.2.2.2; simpa [PEx.er, Ex.args, PEx.ers_length] using this
    have hval : (PEx.mk k o nm v p c ts).val = .agg #[.int .i64 k, .int .i64 o, sV nm, .int .i64 v, .slice p ts.length c] := by
      simp only [PEx.val, PEx.er, PEx.ptr, PEx.cap, Ex.val, Ex.kind, Ex.op, Ex.name, Ex.value, Ex.args, PEx.ers_length]
    rw [hval] at hyd ⊢
    have HP := Lib.hid hP.2
    have HS := Lib.hid (show Ex.sizes (PEx.ers ts) ≤ s by simp only [PEx.er, Ex.size] at hs; omega)
    have HN := Lib.hid hN
    have hJa := abides_alloc hJ (.cells #[.int .i64 k, .int .i64 o, sV nm, .int .i64 v, .slice p ts.length c] 25) hJ0
    have hb0 : (W.alloc (.cells #[.int .i64 k, .int .i64 o, sV nm, .int .i64 v, .slice p ts.length c] 25)).heap[W.heap.size]? = some (.cells #[.int .i64 k, .int .i64 o, sV nm, .int .i64 v, .slice p ts.length c] 25 (0, 0)) := alloc_here _ _
    have HB0 := Lib.hid hb0
    clear hb0
    obtain ⟨fn, tmps, assign, body, hy, hR⟩ := hyd _ hJa (by simp only [PEx.pre, List.length_cons] at hN; omega) hfit
    clear hP hs hN hval hfit hyd hJ0
    refine callsIn_of_wp Tryz.func88 rfl hv ?_ hro
    simp only [Tryz.ntmps88, List.size_toArray, List.length_cons, List.length_nil, Nat.reduceAdd, Nat.reduceSub, Array.replicate_succ, Array.replicate_zero, List.push_toArray, List.append_toArray, List.nil_append, List.cons_append]
    gi_wp2
    refine hR.mono ?_
    clear hR hy
    rintro e W2 (⟨rfl, hJ2, hK2⟩ | ⟨rfl, hJx2⟩)
    · have hb2 : W2.heap[W.heap.size]? = some (.cells #[.int .i64 k, .int .i64 o, sV nm, .int .i64 v, .slice p ts.length c] 25 (0, 0)) := hK2.2.2 _ _ _ HB0.out
      have c4 : W2.cell? ⟨W.heap.size, 4, none⟩ = some (.slice p ts.length c) := cell_of hb2 rfl
      have HK2 := Lib.hid (show Kx n₀ W W2 from (Kx.of_ext ((Below.refl _ W).alloc (Nat.le_refl _) _) hn0).trans hK2)
      have HJ2 := Lib.hid hJ2
      clear hb2 hK2 hJ2 hJa HB0
      gi_wp2
      gi_loopw [14] (fun i wr => ∃ j : Nat, j ≤ ts.length ∧ i = .int .i64 (j : Int) ∧ J (pre ++ (.mk k o nm v p c ts :: PEx.pres (ts.take j))) wr ∧ Kx n₀ W wr) (fun i _ => ts.length - (intOf i).toNat)
      case atStart => exact ⟨0, Nat.zero_le _, rfl, by simpa [PEx.pres] using HJ2.out, HK2.out⟩
      case round =>
        obtain ⟨j, hj, rfl, hJr, hKr⟩ := hrel
        have HKr := Lib.hid hKr
        have HJr := Lib.hid hJr
        by_cases hlt : j < ts.length
        · obtain ⟨b, off, rfl, hb, hcs, hPa⟩ := (PEx.PAtL.low hKr.1 HP.out).get j hlt
          rw [Nat.zero_add] at hcs
          obtain ⟨c0, c1, c2, c3, c4⟩ := hcs
          have hnw : n₀ ≤ wr.heap.size := Nat.le_trans hn0 hKr.2.1
          have hsz : (ts[j]).er.size ≤ s := by
            have h1 := Ex.size_get (PEx.ers ts) j (by rw [PEx.ers_length]; exact hlt)
            rw [PEx.ers_get ts j hlt] at h1
            exact Nat.le_trans h1 HS.out
          have hlen : (pre ++ (PEx.mk k o nm v (some ⟨b, off, none⟩) c ts :: PEx.pres (ts.take j))).length + (ts[j]).pre.length ≤ N := by
            have h1 := HN.out
            have h2 := (PEx.pres_prefix ts (j + 1)).length_le
            rw [PEx.pres_take ts j hlt] at h2
            simp only [PEx.pre, List.length_cons, List.length_append] at h1 h2 ⊢
            omega
          have C := ih (ts[j]) hsz (n - 1) _ (wr.alloc (.cells #[.int .i64 (ts[j]).er.kind, .int .i64 (ts[j]).er.op, sV (ts[j]).er.name, .int .i64 (ts[j]).er.value, .slice (ts[j]).ptr (ts[j]).er.args.length (ts[j]).cap] 25))
            (hPa.low (((Below.refl _ wr).alloc (Nat.le_refl _) _).mono hnw)) (abides_alloc hJ _ hJr) (by simp; omega) hlen
          change CallsIn F (n - 1) _ _ #[.agg #[.int .i64 (ts[j]).er.kind, .int .i64 (ts[j]).er.op, sV (ts[j]).er.name, .int .i64 (ts[j]).er.value, .slice (ts[j]).ptr (ts[j]).er.args.length (ts[j]).cap], _] _ _ at C
          have HT := Lib.hid (PEx.pres_take ts j hlt)
          have HPr := Lib.hid (PEx.pres_prefix ts (j + 1))
          have HK4 := Lib.hid (Kx.of_ext ((Below.refl _ wr).alloc (Nat.le_refl _) (.cells #[.int .i64 (ts[j]).er.kind, .int .i64 (ts[j]).er.op, sV (ts[j]).er.name, .int .i64 (ts[j]).er.value, .slice (ts[j]).ptr (ts[j]).er.args.length (ts[j]).cap] 25)) hnw)
          rw [HT.out] at HPr
          generalize (ts[j]).er.kind = k1 at *
          generalize (ts[j]).er.op = o1 at *
          generalize (ts[j]).er.name = n1 at *
          generalize (ts[j]).er.value = v1 at *
          generalize (ts[j]).er.args.length = l1 at *
          generalize (ts[j]).ptr = q1 at *
          generalize (ts[j]).cap = cc at *
          generalize (ts[j]).pre = P1 at *
          clear hPa hlen hJr hKr HP HJ2 HK2 ih
          gi_wp2_with ((try refine ⟨hdd _, ?_⟩); gi_at_call 88; refine C.mono ?_; clear C; rintro e W3 (⟨rfl, hJ3, hK3⟩ | ⟨rfl, q, hq, hx3⟩))
          · go_roundw
            case rel => exact ⟨j + 1, by omega, by go_num, by rw [HT.out]; simpa [List.append_assoc] using hJ3, HKr.out.trans (HK4.out.trans hK3)⟩
            case measure => simp [intOf]; omega
          · go_ret
            obtain ⟨r, hr⟩ := hq
            obtain ⟨r2, hr2⟩ := HPr.out
            exact .inr ⟨rfl, .mk k o nm v (some ⟨b, off, none⟩) c ts :: (PEx.pres (ts.take j) ++ q), ⟨r ++ r2, by rw [← hr] at hr2; simp only [PEx.pre, ← hr2]; simp [List.append_assoc]⟩, by simpa [List.append_assoc] using hx3⟩
        · have hk : ts.take j = ts := List.take_of_length_le (by omega)
          rw [hk] at HJr
          clear hk hJr hKr
          gi_wp2
          go_ret
          exact .inl ⟨rfl, HJr.out, HKr.out⟩
    · clear hJa
      gi_wp2
      go_ret
      exact .inr ⟨rfl, [.mk k o nm v p c ts], ⟨PEx.pres ts, rfl⟩, hJx2⟩

end Go.Proofs.YtmokejjndkibhaaGreatDoor

namespace Go.Proofs.YtmokejjndkibhaaGreatDoor
open Go.RowKit
set_option linter.unusedVariables false
set_option linter.unusedSimpArgs false
attribute [local go_sem] Oper.semAt_some

abbrev Pt := { d : PEx // Ex.fits d.er }
theorem parts1_in (F : Fence) (hd : F.depth = none) (n : Nat) (hp : F.fn 87) (hv : F.fn 88) (hro : F.round = none) (l B n₀ A : Nat) (d : PEx) (J Jx : List PEx → World → Prop) (hJ : AbidesFrom A J)
    (hY : ∀ m pre x W, J pre W → pre.length < d.pre.length → Ex.fits x.er → YieldAt F m Tryz.prog l #[x.val] W fun e W' =>
      (e = .returned (.bool true) ∧ J (pre ++ [x]) W' ∧ Kx n₀ W W') ∨ (e = .returned (.bool false) ∧ Jx (pre ++ [x]) W'))
    (W : World) (hc : W.heap[B]? = some (.cells (exC d.er.kind d.er.op d.er.name d.er.value d.ptr d.er.args.length d.cap) tEx (0, 0))) (hP : PEx.PAt n₀ W d) (hn : n₀ ≤ W.heap.size) (h0 : J [] W) :
    CallsIn F n Tryz.prog 87 #[.func (.yield l) #[] #[], .pointer (some ⟨B, 0, none⟩)] W fun e W' => (∃ v, e = .returned v) ∧ (J d.pre W' ∨ ∃ q, q <+: d.pre ∧ Jx q W') := by
  have hdd : ∀ k : Nat, (F.depth.isSome = true → 1 ≤ k) := fun k h => by rw [hd] at h; cases h
  have C := visit_in F hd hv hro l n₀ d.pre.length A J Jx hJ hY d.er.size d (Nat.le_refl _) (n - 1) [] W hP h0 hn (by simp)
  change CallsIn F (n - 1) _ _ #[.agg #[.int .i64 d.er.kind, .int .i64 d.er.op, sV d.er.name, .int .i64 d.er.value, .slice d.ptr d.er.args.length d.cap], _] _ _ at C
  generalize d.er.kind = k1 at *
  generalize d.er.op = o1 at *
  generalize d.er.name = n1 at *
  generalize d.er.value = v1 at *
  generalize d.er.args.length = l1 at *
  generalize d.ptr = q1 at *
  generalize d.cap = cc at *
  generalize d.pre = P1 at *
  have b0 : W.cell? ⟨B, 0, none⟩ = some (.int .i64 k1) := cell_of hc rfl
  have b1 : W.cell? ⟨B, 1, none⟩ = some (.int .i64 o1) := cell_of hc rfl
  have b2 : W.cell? ⟨B, 2, none⟩ = some (sV n1) := cell_of hc rfl
  have b3 : W.cell? ⟨B, 3, none⟩ = some (.int .i64 v1) := cell_of hc rfl
  have b4 : W.cell? ⟨B, 4, none⟩ = some (.slice q1 l1 cc) := cell_of hc rfl
  clear hc hP hY
  refine callsIn_of_wp Tryz.func87 rfl hp ?_ hro
  simp only [Tryz.ntmps87, List.size_toArray, List.length_cons, List.length_nil, Nat.reduceAdd, Nat.reduceSub, Array.replicate_succ, Array.replicate_zero, List.push_toArray, List.append_toArray, List.nil_append, List.cons_append]
  gi_wp2_with ((try refine ⟨hdd _, ?_⟩); gi_at_call 88; refine C.mono ?_; clear C; rintro e W1 (⟨rfl, hJ1, _⟩ | ⟨rfl, q, hq, hx⟩))
  · go_end0
    exact ⟨⟨_, rfl⟩, .inl (by simpa using hJ1)⟩
  · go_end0
    exact ⟨⟨_, rfl⟩, .inr ⟨q, hq, by simpa using hx⟩⟩

theorem parts_stops (F : Fence) (hd : F.depth = none) (n : Nat) (hp : F.fn 87) (hv : F.fn 88) (hro : F.round = none) (B n₀ : Nat) (d : PEx) (w : World) (hn : n₀ ≤ w.heap.size)
    (hc : w.heap[B]? = some (.cells (exC d.er.kind d.er.op d.er.name d.er.value d.ptr d.er.args.length d.cap) tEx (0, 0))) (hP : PEx.PAt n₀ w d) :
    SeqStopsK F n Tryz.prog 87 #[.pointer (some ⟨B, 0, none⟩)] (fun x : Pt => #[x.1.val]) (Kx n₀) (fun ys => ys.map (·.1) = d.pre) (fun ys => ys.map (·.1) <+: d.pre) d.pre.length w := by
  intro l J Jx W hW hJ hJx hY h0
  have hJ' : AbidesFrom W.heap.size (fun (pre : List PEx) W => ∃ ys : List Pt, ys.map (·.1) = pre ∧ J ys W) := fun s X Y row ⟨ys, h1, h2⟩ hg hr => ⟨ys, h1, hJ ys X Y row h2 hg hr⟩
  have C := parts1_in F hd n hp hv hro l B n₀ W.heap.size d (fun (pre : List PEx) W => ∃ ys : List Pt, ys.map (·.1) = pre ∧ J ys W) (fun (pre : List PEx) W => ∃ ys : List Pt, ys.map (·.1) = pre ∧ Jx ys W) hJ'
    (fun m pre x W1 ⟨ys, h1, h2⟩ hlen hx => YieldAt.any hd m (YieldAt.mono (hY ys ⟨x, hx⟩ W1 h2 (by rw [← h1] at hlen; simpa using hlen)) fun e W' h => h.elim
      (fun ⟨a, b, c⟩ => .inl ⟨a, ⟨ys ++ [⟨x, hx⟩], by simp [h1], b⟩, c⟩) (fun ⟨a, b⟩ => .inr ⟨a, ⟨ys ++ [⟨x, hx⟩], by simp [h1], b⟩⟩)))
    W ((hW.block B (lt_of_block hc)).trans hc) (hP.low (hW.mono hn)) (Nat.le_trans hn hW.size) ⟨[], rfl, h0⟩
  refine C.mono ?_
  rintro e W' ⟨hv', ⟨ys, h1, h2⟩ | ⟨q, hq, ys, h1, h2⟩⟩
  · exact ⟨hv', .inl ⟨ys, h1, h2⟩⟩
  · exact ⟨hv', .inr ⟨ys, by show ys.map (·.1) <+: d.pre; rw [h1]; exact hq, h2⟩⟩

theorem xparts_any (k o : Int) (nm : List UInt8) (v : Int) (p : Option Addr) (m c : Nat) (w : World) : Calls Tryz.prog 56 #[.agg #[.int .i64 k, .int .i64 o, sV nm, .int .i64 v, .slice p m c]] w fun e W =>
    ∃ B, e = .returned (.func (.func 87) #[] #[.pointer (some ⟨B, 0, none⟩)]) ∧ W.heap[B]? = some (.cells (exC k o nm v p m c) tEx (0, 0)) ∧ Ext w W := by
  go_enter Tryz.func56, Tryz.ntmps56
  go_wp2
  go_ret
  exact ⟨_, rfl, alloc_here _ _, (Below.refl _ w).alloc (Nat.le_refl _) _⟩

end Go.Proofs.YtmokejjndkibhaaGreatDoor

namespace Go.Proofs.YtmokejjndkibhaaGreatDoor
open Go.RowKit
set_option linter.unusedVariables false
set_option linter.unusedSimpArgs false
attribute [local go_sem] Oper.semAt_some

theorem cells_own {X Y : World} {row : Option Nat} {B : Nat} {c : Array Value} {t : TypeId} {f : Nat × Nat} (h : X.heap[B]? = some (.cells c t f)) (hg : X.grownBy Y row) (hr : ∀ r, row = some r → ∃ o : Obj, X.heap[r]? = some o ∧ o.isCells = false) : Y.heap[B]? = some (.cells c t f) :=
  (hg.block B (lt_of_block h) (fun e => by obtain ⟨o, ho, hc⟩ := hr B e.symm; rw [h] at ho; cases ho; cases hc)).trans h
theorem keepsFrom_ext {B : Nat} {W W' : World} (h : Below W.heap.size W W') : KeepsFrom B W W' := ⟨h.size, fun i o _ hi _ => (h.block i (lt_of_block hi)).trans hi⟩

set_option maxRecDepth 100000 in
set_option maxHeartbeats 4000000 in
theorem Check_any (e : Ex) (p : Option Addr) (c : Nat) (w : World) (hA : Ex.At w p e) : Gives Tryz.prog 36 #[e.val p c] w (.int .i64 e.chk) := by
  have C := Lib.hid (fun W g h1 h2 h3 => show Calls _ _ #[.agg #[.int .i64 e.kind, .int .i64 e.op, sV e.name, .int .i64 e.value, .slice p e.args.length c], _, _] _ _ from measure_any w e.size e (Nat.le_refl _) p c 0 1 g 1 W rfl hA h1 h2 h3 (by omega) (by omega) (by omega))
  obtain ⟨d, hd1, hd2, hd3, hP⟩ := PEx.of_at c hA
  have HC := Lib.hid (show e.chk = if 100 < e.size then 4 else if 12 < e.height then 22 else PEx.ferr d.pre by rw [PEx.ferr_pre, hd1]; rfl)
  have HST := Lib.hid (fun n B W h1 h2 h3 => show SeqStopsK Fence.wide n Tryz.prog 87 #[.pointer (some ⟨B, 0, none⟩)] (fun x : Pt => #[x.1.val]) (Kx w.heap.size) (fun ys => ys.map (·.1) = d.pre) (fun ys => ys.map (·.1) <+: d.pre) d.pre.length W from
    parts_stops Fence.wide rfl n trivial trivial rfl B w.heap.size d W h1 h2 h3)
  rw [hd2, hd3, hd1] at HST
  have HP := Lib.hid hP
  have hle := Ex.height_le e
  unfold Gives Ex.val
  generalize e.height = g1 at *
  generalize e.size = s1 at *
  generalize e.chk = r at *
  clear hd1 hP
  generalize e.kind = k1 at *
  generalize e.op = o1 at *
  generalize e.name = n1 at *
  generalize e.value = v1 at *
  generalize e.args.length = l1 at *
  obtain ⟨B, hB⟩ : ∃ B, B = w.heap.size := ⟨_, rfl⟩
  have HA2 := Lib.hid (show Ext w (((w.alloc (.cells #[.int .i64 k1, .int .i64 o1, sV n1, .int .i64 v1, .slice p l1 c] 25)).alloc (.cells #[.int .i64 0] 26)).alloc (numO 0)) from (((Below.refl _ w).alloc (Nat.le_refl _) _).alloc (by simp) _).alloc (by simp; omega) _)
  refine (callsIn_wide (n := 9)).1 ?_
  refine callsIn_of_wp_marks Tryz.func36 rfl trivial ?_ rfl
  simp only [Tryz.ntmps36, List.size_toArray, List.length_cons, List.length_nil, Nat.reduceAdd, Nat.reduceSub, Array.replicate_succ, Array.replicate_zero, List.push_toArray, List.append_toArray, List.nil_append, List.cons_append]
  gi_wp2_with (fail)
  refine ⟨trivial, callsIn_wide.2 ((C.out _ (w.heap.size + 1 + 1) HA2.out (by omega) (by
    have h := alloc_here ((w.alloc (.cells #[.int .i64 k1, .int .i64 o1, sV n1, .int .i64 v1, .slice p l1 c] 25)).alloc (.cells #[.int .i64 0] 26)) (numO 0)
    have e : ((w.alloc (.cells #[.int .i64 k1, .int .i64 o1, sV n1, .int .i64 v1, .slice p l1 c] 25)).alloc (.cells #[.int .i64 0] 26)).heap.size = w.heap.size + 1 + 1 := by simp
    rw [e] at h; exact h)).mono ?_)⟩
  rintro x W1 ⟨dp, m, rfl, hT, hm1, hr1, hle1, hgt1⟩
  have hsz2 : (((w.alloc (.cells #[.int .i64 k1, .int .i64 o1, sV n1, .int .i64 v1, .slice p l1 c] 25)).alloc (.cells #[.int .i64 0] 26)).alloc (numO 0)).heap.size = w.heap.size + 3 := by simp
  have hcn : W1.cell? ⟨w.heap.size + 1 + 1, 0, none⟩ = some (.int .i64 (m : Int)) := cell_of hT.here rfl
  have hW1 : Ext w W1 := Below.trans HA2.out (hT.below (by omega) (by rw [hsz2]; omega))
  have hbE : W1.heap[w.heap.size]? = some (.cells (exC k1 o1 n1 v1 p l1 c) tEx (0, 0)) := by
    rw [hT.other _ (by rw [hsz2]; omega) (by omega)]
    exact (Below.heap_alloc _ _ _ (by simp; omega)).trans ((Below.heap_alloc _ _ _ (by simp)).trans (alloc_here _ _))
  have hbR : W1.heap[w.heap.size + 1]? = some (.cells #[.int .i64 0] 26 (0, 0)) := by
    rw [hT.other _ (by rw [hsz2]; omega) (by omega)]
    have h := alloc_here (w.alloc (.cells #[.int .i64 k1, .int .i64 o1, sV n1, .int .i64 v1, .slice p l1 c] 25)) (.cells #[.int .i64 0] 26)
    rw [World.size_alloc] at h
    exact (Below.heap_alloc _ _ _ (by simp)).trans h
  have hz1 : w.heap.size + 3 ≤ W1.heap.size := by have := hT.size; rw [hsz2] at this; exact this
  have b0 : W1.cell? ⟨w.heap.size, 0, none⟩ = some (.int .i64 k1) := cell_of hbE rfl
  have b1 : W1.cell? ⟨w.heap.size, 1, none⟩ = some (.int .i64 o1) := cell_of hbE rfl
  have b2 : W1.cell? ⟨w.heap.size, 2, none⟩ = some (sV n1) := cell_of hbE rfl
  have b3 : W1.cell? ⟨w.heap.size, 3, none⟩ = some (.int .i64 v1) := cell_of hbE rfl
  have b4 : W1.cell? ⟨w.heap.size, 4, none⟩ = some (.slice p l1 c) := cell_of hbE rfl
  have cR : W1.cell? ⟨w.heap.size + 1, 0, none⟩ = some (.int .i64 0) := cell_of hbR rfl
  have fR : W1.frozen? ⟨w.heap.size + 1, 0, none⟩ = false := free_of hbR
  have HW1 := Lib.hid hW1
  have HbR := Lib.hid hbR
  clear hT hbE hbR hW1 hsz2 C HA2 hB
  clear B
  by_cases h100 : 100 < s1
  · have hm : 100 < m := hgt1 (by omega)
    have HZ := Lib.hid (show r = 4 by rw [HC.out, if_pos h100])
    have HF := Lib.hid (Below.setCell HW1.out (p := ⟨w.heap.size + 1, 0, none⟩) (show w.heap.size ≤ w.heap.size + 1 by omega) (.int .i64 4))
    have hc5 : (W1.setCell ⟨w.heap.size + 1, 0, none⟩ (.int .i64 4)).cell? ⟨w.heap.size + 1, 0, none⟩ = some (.int .i64 4) := World.cell?_setCell_same' _ _ _ (by rw [cR]; rfl)
    clear hle1 hgt1
    gi_wp2
    exact ⟨.int .i64 4, by simp [results, Tryz.f36, go_sem, hc5], by rw [HZ.out], HF.out⟩
  · obtain ⟨rfl, hdp⟩ := hle1 (by omega)
    by_cases h12 : 12 < g1
    · have HZ := Lib.hid (show r = 22 by rw [HC.out, if_neg h100, if_pos h12])
      have hd12 : 12 < dp := by omega
      have HF := Lib.hid (Below.setCell HW1.out (p := ⟨w.heap.size + 1, 0, none⟩) (show w.heap.size ≤ w.heap.size + 1 by omega) (.int .i64 22))
      have hc5 : (W1.setCell ⟨w.heap.size + 1, 0, none⟩ (.int .i64 22)).cell? ⟨w.heap.size + 1, 0, none⟩ = some (.int .i64 22) := World.cell?_setCell_same' _ _ _ (by rw [cR]; rfl)
      clear hgt1
      gi_wp2
      exact ⟨.int .i64 22, by simp [results, Tryz.f36, go_sem, hc5], by rw [HZ.out], HF.out⟩
    · have HZ := Lib.hid (show r = PEx.ferr d.pre by rw [HC.out, if_neg h100, if_neg h12])
      have hd12 : dp ≤ 12 := by omega
      have hq1 : decide ((100 : Int) < (s1 : Int)) = false := by simp; omega
      have hq2 : decide ((12 : Int) < (dp : Int)) = false := by simp; omega
      clear hgt1
      gi_wp2_with (fail)
      refine ⟨trivial, callsIn_wide.2 ((xparts_any _ _ _ _ _ _ _ _).mono ?_)⟩
      rintro x W3 ⟨B2, rfl, hb3, hE3⟩
      have hW3 : Ext w W3 := Ext.trans HW1.out hE3
      have hP3 := HP.out.low hW3.below
      have hbR3 : Boxed W3 (w.heap.size + 1) 26 (.int .i64 0) := (hE3.below.block _ (lt_of_block HbR.out)).trans HbR.out
      have hn3 : w.heap.size ≤ W3.heap.size := hW3.size
      have hz3 : w.heap.size + 3 ≤ W3.heap.size := Nat.le_trans hz1 hE3.size
      clear b0 b1 b2 b3 b4 cR fR hcn
      gi_wp2_with (fail)
      refine wpIn_rangeFunc_ownH rfl (by omega) (gf := 87) (lb := #[.pointer (some ⟨B2, 0, none⟩)]) rfl trivial (enters_fn Tryz.func87 (by kernel_rfl) rfl)
        (encs := fun x : Pt => #[(.agg #[.int .i64 x.1.er.kind, .int .i64 x.1.er.op, sV x.1.er.name, .int .i64 x.1.er.value, .slice x.1.ptr x.1.er.args.length x.1.cap])]) (HST.out 8 B2 W3 hn3 hb3 hP3) Kx.trans (Kx.putObj hn3) (Below.refl _ _) (fun _ => rfl)
        (fun ys W => (PEx.ferr (ys.map (·.1)) = 0 ∧ Boxed W (w.heap.size + 1) 26 (.int .i64 0)) ∧ Below w.heap.size w W)
        (fun cd ys W => (cd = .ret ∧ ∃ f, f ≠ 0 ∧ PEx.ferr (ys.map (·.1)) = f ∧ Boxed W (w.heap.size + 1) 26 (.int .i64 f)) ∧ Below w.heap.size w W)
        (OwnFrom.and (fun s X Y row hs hg hr => ⟨hs.1, boxed_own (w.heap.size + 1) 26 (fun (_ : Unit) => Value.int .i64 0) () X Y row hs.2 hg (fun r e => (hr r e).2)⟩) (ownFrom_below (Nat.le_refl _) hn3))
        (fun cd => OwnFrom.and (fun s X Y row hs hg hr => ⟨hs.1, by obtain ⟨f, h1, h2, h3⟩ := hs.2; exact ⟨f, h1, h2, boxed_own (w.heap.size + 1) 26 (fun (_ : Unit) => Value.int .i64 f) () X Y row h3 hg (fun r e => (hr r e).2)⟩⟩) (ownFrom_below (Nat.le_refl _) hn3))
        ⟨⟨rfl, hbR3⟩, hW3⟩
        (fun x a' W => ∃ Bx, W.heap[Bx]? = some (.cells (exC x.1.er.kind x.1.er.op x.1.er.name x.1.er.value x.1.ptr x.1.er.args.length x.1.cap) tEx (0, 0)) ∧ a' = { tmps := #[(.agg #[.int .i64 k1, .int .i64 o1, sV n1, .int .i64 v1, .slice p l1 c]), .pointer (some ⟨w.heap.size, 0, none⟩), .pointer (some ⟨w.heap.size + 1, 0, none⟩), .pointer (some ⟨w.heap.size + 1 + 1, 0, none⟩), .int .i64 (dp : Int), .pointer (some ⟨Bx, 0, none⟩), undef, (.agg #[.int .i64 k1, .int .i64 o1, sV n1, .int .i64 v1, .slice p l1 c]), .int .i64 (dp : Int), .int .i64 (s1 : Int), .bool false, .int .i64 (dp : Int), .bool false, (.agg #[.int .i64 k1, .int .i64 o1, sV n1, .int .i64 v1, .slice p l1 c]), .func (.func 87) #[] #[.pointer (some ⟨B2, 0, none⟩)], (.agg #[.int .i64 x.1.er.kind, .int .i64 x.1.er.op, sV x.1.er.name, .int .i64 x.1.er.value, .slice x.1.ptr x.1.er.args.length x.1.cap]), undef, undef, undef, undef, undef], defers := [] })
        (fun x a' _ X Y row hs hg hr => by obtain ⟨Bx, h1, h3⟩ := hs; exact ⟨Bx, cells_own h1 hg (fun r e => (hr r e).2), h3⟩)
        ?assign ?body ?done ?stop
      case assign =>
        rintro l ys x W K ⟨⟨h1, h2⟩, h3⟩ hK
        have hw := h3.size
        generalize x.1.er.kind = k2 at *
        generalize x.1.er.op = o2 at *
        generalize x.1.er.name = n2 at *
        generalize x.1.er.value = v2 at *
        generalize x.1.er.args.length = l2 at *
        generalize x.1.ptr = q2 at *
        generalize x.1.cap = c2 at *
        gi_wp2
        exact hK _ _ ((KeepsOthers.alloc _ _).from _) (Kx.of_ext ((Below.refl _ W).alloc (Nat.le_refl _) _) hw) ⟨⟨h1, h2.alloc _⟩, h3.alloc hw _⟩ ⟨W.heap.size, alloc_here _ _, rfl⟩
      case body =>
        rintro l ys x a' W hl ⟨rr, hr⟩ ⟨⟨h1, h2⟩, h3⟩ ⟨Bx, hbx, rfl⟩ hlt
        have CK := Lib.hid (fun W => show Gives _ _ #[(.agg #[.int .i64 x.1.er.kind, .int .i64 x.1.er.op, sV x.1.er.name, .int .i64 x.1.er.value, .slice x.1.ptr x.1.er.args.length x.1.cap])] _ _ from check_any x.1.er x.1.ptr x.1.cap W x.2)
        have hw := h3.size
        have HF := Lib.hid (show ∀ f, pc x.1.er = f → PEx.ferr ((ys ++ [x]).map (·.1)) = f from fun f hf => by rw [List.map_append, PEx.ferr_app, h1]; simp [PEx.ferr, hf]; exact fun h => h.symm)
        generalize pc x.1.er = f1 at *
        generalize x.1.er.kind = k2 at *
        generalize x.1.er.op = o2 at *
        generalize x.1.er.name = n2 at *
        generalize x.1.er.value = v2 at *
        generalize x.1.er.args.length = l2 at *
        generalize x.1.ptr = q2 at *
        generalize x.1.cap = c2 at *
        have b0 : W.cell? ⟨Bx, 0, none⟩ = some (.int .i64 k2) := cell_of hbx rfl
        have b1 : W.cell? ⟨Bx, 1, none⟩ = some (.int .i64 o2) := cell_of hbx rfl
        have b2 : W.cell? ⟨Bx, 2, none⟩ = some (sV n2) := cell_of hbx rfl
        have b3 : W.cell? ⟨Bx, 3, none⟩ = some (.int .i64 v2) := cell_of hbx rfl
        have b4 : W.cell? ⟨Bx, 4, none⟩ = some (.slice q2 l2 c2) := cell_of hbx rfl
        by_cases hf : f1 = 0
        · subst hf
          gi_wp2_with (fail)
          refine ⟨trivial, (CallsIn.inRound l (callsIn_wide.2 (CK.out W))).mono ?_⟩
          rintro e W4 ⟨rfl, hE4⟩
          gi_wp2
          exact ⟨keepsFrom_ext hE4, Kx.of_ext hE4 hw, ⟨HF.out 0 rfl, (hE4.block _ h2.lt).trans h2⟩, h3.trans (hE4.mono hw)⟩
        · have hg1 : (f1 == 0) = false := by simpa using hf
          have hg2 : (f1 != 0) = true := by simpa using hf
          have HNE := Lib.hid hf
          clear hf
          gi_wp2_with (fail)
          refine ⟨trivial, (CallsIn.inRound l (callsIn_wide.2 (CK.out W))).mono ?_⟩
          rintro e W4 ⟨rfl, hE4⟩
          have h24 : Boxed W4 (w.heap.size + 1) 26 (.int .i64 0) := (hE4.block _ h2.lt).trans h2
          have cS := h24.cell
          have fS := h24.frozen
          gi_wp2
          exact ⟨(keepsFrom_ext hE4).trans ((KeepsOthers.setCell _ _ _).from _), ⟨rfl, f1, HNE.out, HF.out f1 rfl, h24.set _⟩, (h3.trans (hE4.mono hw)).setCell (p := ⟨w.heap.size + 1, 0, none⟩) (by simp) _⟩
      case done =>
        rintro D ys W hD hys ⟨⟨h1, h2⟩, h3⟩ hK
        have HZ2 := Lib.hid (show r = 0 by rw [HZ.out, ← h1]; exact congrArg PEx.ferr hys.symm)
        have cS := h2.cell
        have fS := h2.frozen
        clear h1 hys
        gi_wp2
        have hK' := (KeepsOthers.setCell W ⟨w.heap.size + 1, 0, none⟩ (.int .i64 0)).same D _ hK rfl
        refine ⟨by simp, .inl ⟨_, _, rfl, run_takeDeferred hK', ?_⟩⟩
        have hc5 := cell_kept (World.cell?_setCell_same' W ⟨w.heap.size + 1, 0, none⟩ (.int .i64 0) (by rw [cS]; rfl)) (grownBy_putObj' _ D (.deferred none)) (fun r e => by cases e; exact ⟨_, hK', rfl⟩)
        refine ⟨.int .i64 0, ?_, by rw [HZ2.out], (h3.setCell (p := ⟨w.heap.size + 1, 0, none⟩) (by simp) _).trans (belowK_b (w := w) (Nat.le_refl _) _ D _ _ (by omega) hK' rfl rfl)⟩
        simp [results, Tryz.f36, go_sem, hc5]
      case stop =>
        rintro D cd ys W hD hys ⟨⟨rfl, f, hf, h1, h2⟩, h3⟩ hK
        have HZ2 := Lib.hid (show r = f by
          rw [HZ.out]
          obtain ⟨rest, hrest⟩ := hys
          rw [← hrest, PEx.ferr_app, h1, if_pos hf])
        have cS := h2.cell
        clear h1 hys
        gi_wp2
        refine ⟨by simp, .inl ⟨_, _, rfl, run_takeDeferred hK, ?_⟩⟩
        have hc5 := cell_kept cS (grownBy_putObj' _ D (.deferred none)) (fun r e => by cases e; exact ⟨_, hK, rfl⟩)
        refine ⟨.int .i64 f, ?_, by rw [HZ2.out], h3.trans (belowK_b (w := w) (Nat.le_refl _) W D _ _ (by omega) hK rfl rfl)⟩
        simp [results, Tryz.f36, go_sem, hc5]

end Go.Proofs.YtmokejjndkibhaaGreatDoor

namespace Go.Proofs.YtmokejjndkibhaaGreatDoor
open Go.RowKit
set_option linter.unusedVariables false
set_option linter.unusedSimpArgs false

/-- what operator k makes of two numbers, if it is in range -/
def opE (k x y : Int) : Int × Int := if (opR k x y).2 ≠ 0 then (0, (opR k x y).2) else if inM (opR k x y).1 then ((opR k x y).1, 0) else (0, 14)

theorem mulBig_comm (x y : Int) (hx : inM x) (hy : inM y) : mulBig y x = mulBig x y := by
  have h1 := mul_big x y
  have h2 := mul_big y x
  have h3 := mul_bd x y hx hy
  have h4 := mul_bd y x hy hx
  rw [Int.mul_comm y x] at h2 h4
  cases ha : mulBig x y <;> cases hb : mulBig y x
  · rfl
  · exact absurd (h3 ha) (h2 hb)
  · exact absurd (h4 hb) (h1 ha)
  · rfl

end Go.Proofs.YtmokejjndkibhaaGreatDoor

namespace Go.Proofs.YtmokejjndkibhaaGreatDoor
open Go.RowKit
set_option linter.unusedVariables false
set_option linter.unusedSimpArgs false

theorem opE_0 {k x y r : Int} (h : opR k x y = (r, 0)) (hr : inM r) : opE k x y = (r, 0) := by simp [opE, h, hr]
theorem opE_e {k x y r e : Int} (h : opR k x y = (r, e)) (he : e ≠ 0) : opE k x y = (0, e) := by simp [opE, h, he]
theorem opE_o {k x y r : Int} (h : opR k x y = (r, 0)) (hr : ¬ inM r) : opE k x y = (0, 14) := by simp [opE, h, hr]
theorem inM_01 (b : Bool) : inM (if b then 1 else 0) := by cases b <;> decide
end Go.Proofs.YtmokejjndkibhaaGreatDoor

namespace Go.Proofs.YtmokejjndkibhaaGreatDoor
open Go.RowKit
set_option linter.unusedVariables false
set_option linter.unusedSimpArgs false
open Ex

/-- what a function yields at the elements of a list: the first error, or the numbers -/
def mapE (f : Ex → Int × Int) : List Ex → Int × List Int
  | [] => (0, [])
  | e :: es => if (f e).2 ≠ 0 then ((f e).2, []) else ((mapE f es).1, (f e).1 :: (mapE f es).2)
theorem mapE_take (f : Ex → Int × Int) (ts : List Ex) (j : Nat) (h : j < ts.length) (h0 : (mapE f (ts.take j)).1 = 0) :
    ((f ts[j]).2 ≠ 0 → (mapE f ts).1 = (f ts[j]).2) ∧ ((f ts[j]).2 = 0 → mapE f (ts.take (j + 1)) = (0, (mapE f (ts.take j)).2 ++ [(f ts[j]).1])) := by
  induction ts generalizing j with
  | nil => simp at h
  | cons t ts ih =>
    cases j with
    | zero =>
      constructor
      · intro h1; simp only [List.getElem_cons_zero] at h1 ⊢; simp [mapE, h1]
      · intro h1; simp only [List.getElem_cons_zero] at h1; simp [mapE, h1]
    | succ j =>
      have hj : j < ts.length := by simpa using h
      rw [List.take_succ_cons, mapE] at h0
      by_cases ht : (f t).2 = 0
      · rw [if_neg (by simp [ht])] at h0
        obtain ⟨i1, i2⟩ := ih j hj h0
        simp only [List.getElem_cons_succ, List.take_succ_cons]
        constructor
        · intro h1; simp only [mapE, ht, ne_eq, not_true_eq_false, if_false]; exact i1 h1
        · intro h1
          have := i2 h1
          simp only [mapE, ht, ne_eq, not_true_eq_false, if_false, List.cons_append]
          rw [this]
      · rw [if_pos ht] at h0
        exact absurd h0 ht
theorem mapE_len (f : Ex → Int × Int) (ts : List Ex) (h : (mapE f ts).1 = 0) : (mapE f ts).2.length = ts.length := by
  induction ts with
  | nil => rfl
  | cons t ts ih =>
    rw [mapE] at h ⊢
    by_cases ht : (f t).2 = 0
    · rw [if_neg (by simp [ht])] at h ⊢
      simp [ih h]
    · rw [if_pos ht] at h; exact absurd h ht

/-- the type of a part whose arguments have the types l -/
def tyN (bs : List Bn) (k o : Int) (n : List UInt8) (l : List Int) : Int × Int :=
  if k = 1 then (1, 0) else if k = 2 then (if fdIs bs n then ((fdB bs n).type, 0) else (0, 7)) else
  if k = 3 then (if l.getD 0 0 = (if o = 2 then 2 else 1) then (if o = 2 then 2 else 1, 0) else (0, 15)) else
  if l.getD 0 0 = l.getD 1 0 ∧ ((opOf o).arg = 0 ∨ l.getD 0 0 = (opOf o).arg) then ((opOf o).res, 0) else (0, 15)
mutual
/-- the type of an expression, and its error -/
def Ex.ty (bs : List Bn) : Ex → Int × Int
  | .mk k o n _ ts => if (Ex.tys bs ts).1 ≠ 0 then (0, (Ex.tys bs ts).1) else tyN bs k o n (Ex.tys bs ts).2
def Ex.tys (bs : List Bn) : List Ex → Int × List Int
  | [] => (0, [])
  | e :: es => if (e.ty bs).2 ≠ 0 then ((e.ty bs).2, []) else ((Ex.tys bs es).1, (e.ty bs).1 :: (Ex.tys bs es).2)
end
theorem tys_map (bs : List Bn) (ts : List Ex) : Ex.tys bs ts = mapE (Ex.ty bs) ts := by
  induction ts with
  | nil => rfl
  | cons t ts ih => simp only [Ex.tys, mapE, ih]
/-- the value of a part whose arguments have the values l -/
def evN (bs : List Bn) (k o : Int) (n : List UInt8) (v : Int) (l : List Int) : Int × Int :=
  if k = 1 then (v, 0) else if k = 2 then ((fdB bs n).value, 0) else
  if k = 3 then (if o = 2 then 1 - l.getD 0 0 else - l.getD 0 0, 0) else opE o (l.getD 0 0) (l.getD 1 0)
mutual
/-- the value of an expression, and its error -/
def Ex.ev (bs : List Bn) : Ex → Int × Int
  | .mk k o n v ts => if (Ex.evs bs ts).1 ≠ 0 then (0, (Ex.evs bs ts).1) else evN bs k o n v (Ex.evs bs ts).2
def Ex.evs (bs : List Bn) : List Ex → Int × List Int
  | [] => (0, [])
  | e :: es => if (e.ev bs).2 ≠ 0 then ((e.ev bs).2, []) else ((Ex.evs bs es).1, (e.ev bs).1 :: (Ex.evs bs es).2)
end
theorem evs_map (bs : List Bn) (ts : List Ex) : Ex.evs bs ts = mapE (Ex.ev bs) ts := by
  induction ts with
  | nil => rfl
  | cons t ts ih => simp only [Ex.evs, mapE, ih]

/-- a valid part, and valid arguments -/
theorem fe_mk {k o : Int} {n : List UInt8} {v : Int} {ts : List Ex} (h : (Ex.mk k o n v ts).fe = 0) : pc' k o n v ts.length = 0 ∧ fes ts = 0 := by
  simp only [Ex.fe] at h
  by_cases hp : pc' k o n v ts.length = 0
  · rw [if_neg (by simp [hp])] at h; exact ⟨hp, h⟩
  · rw [if_pos hp] at h; exact absurd h hp
theorem fes_get {ts : List Ex} (h : fes ts = 0) (j : Nat) (hj : j < ts.length) : (ts[j]).fe = 0 := by
  induction ts generalizing j with
  | nil => simp at hj
  | cons t ts ih =>
    rw [fes] at h
    by_cases ht : t.fe = 0
    · rw [if_neg (by simp [ht])] at h
      cases j with
      | zero => exact ht
      | succ j => exact ih h j (by simpa using hj)
    · rw [if_pos ht] at h; exact absurd h ht
/-- the kinds of valid parts -/
theorem pc_zero {k o : Int} {n : List UInt8} {v : Int} {m : Nat} (h : pc' k o n v m = 0) :
    (k = 1 ∧ o = 0 ∧ n = [] ∧ m = 0 ∧ 0 ≤ v ∧ v ≤ 1099511627776) ∨ (k = 2 ∧ o = 0 ∧ v = 0 ∧ m = 0 ∧ isNm n = true) ∨
    (k = 3 ∧ n = [] ∧ v = 0 ∧ m = 1 ∧ (o = 1 ∨ o = 2)) ∨ (k = 4 ∧ n = [] ∧ v = 0 ∧ m = 2 ∧ 3 ≤ o ∧ o ≤ 15) := by
  revert h
  refine pc_ind (Q := fun k o n v m r => r = 0 → (k = 1 ∧ o = 0 ∧ n = [] ∧ m = 0 ∧ 0 ≤ v ∧ v ≤ 1099511627776) ∨ (k = 2 ∧ o = 0 ∧ v = 0 ∧ m = 0 ∧ isNm n = true) ∨ (k = 3 ∧ n = [] ∧ v = 0 ∧ m = 1 ∧ (o = 1 ∨ o = 2)) ∨ (k = 4 ∧ n = [] ∧ v = 0 ∧ m = 2 ∧ 3 ≤ o ∧ o ≤ 15)) ?_ ?_ ?_ ?_ ?_ ?_ ?_ ?_ ?_ ?_ ?_ ?_ ?_ ?_ ?_ ?_ ?_ ?_ ?_ ?_ ?_ ?_ ?_ ?_ ?_ k o n v m
  all_goals first
    | (intro a1 a2 a3 a4 a5 h; exact absurd h (by decide))
    | (intro a1 a2 a3 a4 h; exact absurd h (by decide))
    | (intro a1 a2 a3 h; exact absurd h (by decide))
    | (intro a1 a2 h; exact absurd h (by decide))
    | (intro a1 a2 a3 a4 a5 a6 h; exact absurd h (by decide))
    | (intro v h1 h2 _; exact .inl ⟨rfl, rfl, rfl, rfl, by omega, by omega⟩)
    | (intro n h1 _; exact .inr (.inl ⟨rfl, rfl, rfl, rfl, h1⟩))
    | (intro _ _; exact .inr (.inr (.inl ⟨rfl, rfl, rfl, rfl, by omega⟩)))
    | (intro o h1 h2 _; exact .inr (.inr (.inr ⟨rfl, rfl, rfl, rfl, by omega, by omega⟩)))

end Go.Proofs.YtmokejjndkibhaaGreatDoor

namespace Go.Proofs.YtmokejjndkibhaaGreatDoor
open Go.RowKit
set_option linter.unusedVariables false

/-- a slice of integers that came in -/
def IsRow (k : IntKind) (w : World) (a : Option Addr) (len cap : Nat) (zs : List Int) : Prop :=
  (a = none ∧ len = 0 ∧ cap = 0 ∧ zs = []) ∨
  ∃ x, a = some x ∧ len ≤ cap ∧ cap ≤ maxLen ∧ zs.length = cap ∧ (∀ i, i < zs.length → w.cell? (x.add i) = some (.int k (zs.getD i 0))) ∧ ∀ n ∈ zs, (Lit.int k n).wf = true

/-- the slice at a holds the integers l -/
def IntsAt (w : World) (a : Option Addr) (l : List Int) : Prop := ∀ i (h : i < l.length), ∃ b off, a = some ⟨b, off, none⟩ ∧ w.cell? ⟨b, off + i, none⟩ = some (.int .i64 l[i])
theorem cell_lt {w : World} {a : Addr} {v : Value} (h : w.cell? a = some v) : a.block < w.heap.size := by
  unfold World.cell? at h
  split at h
  · rename_i hx; exact lt_of_block hx
  · cases h
theorem IntsAt.below {w W : World} {a : Option Addr} {l : List Int} (h : IntsAt w a l) (hE : Below w.heap.size w W) : IntsAt W a l := fun i hi => by
  obtain ⟨b, off, e, hc⟩ := h i hi
  exact ⟨b, off, e, (hE.cell (p := ⟨b, off + i, none⟩) (cell_lt hc)).trans hc⟩
theorem IntsAt.at {w : World} {a : Option Addr} {l : List Int} (h : IntsAt w a l) {i : Nat} (hi : i < l.length) : ∃ b off, a = some ⟨b, off, none⟩ ∧ w.cell? ⟨b, off + i, none⟩ = some (.int .i64 l[i]) := h i hi
theorem IntsAt.nil {w : World} {a : Option Addr} : IntsAt w a [] := fun i hi => by simp at hi
theorem IsRow.ints {w : World} {a : Option Addr} {len cap : Nat} {zs : List Int} (h : IsRow .i64 w a len cap zs) :
    ∃ l : List Int, l.length = len ∧ len ≤ maxLen ∧ IntsAt w a l ∧ ∀ n ∈ l, -9223372036854775808 ≤ n ∧ n ≤ 9223372036854775807 := by
  rcases h with ⟨rfl, rfl, rfl, rfl⟩ | ⟨x, rfl, hl, hm, hz, hcell, hwz⟩
  · exact ⟨[], rfl, by simp, IntsAt.nil, by simp⟩
  · refine ⟨zs.take len, by simp; omega, by omega, fun i hi => ?_, fun n hn => i64_bd (hwz n (List.mem_of_mem_take hn))⟩
    have hi2 : i < zs.length := by simp at hi; omega
    have hc := hcell i hi2
    obtain ⟨b, off, spot⟩ := x
    have hspot : spot = none := by
      have := World.cell?_spot (hcell 0 (by omega))
      simpa [Addr.add] using this
    subst hspot
    refine ⟨b, off, rfl, ?_⟩
    have e : (⟨b, off, none⟩ : Addr).add i = ⟨b, off + i, none⟩ := by unfold Addr.add; split <;> simp_all
    rw [e] at hc
    rw [hc]
    simp [List.getD_eq_getElem?_getD, hi2]


end Go.Proofs.YtmokejjndkibhaaGreatDoor

namespace Go.Proofs.YtmokejjndkibhaaGreatDoor
open Go.RowKit
set_option linter.unusedVariables false

theorem ownsRow_extI {base : Nat} {e : TypeId} {k : Nat} {v : Value} {n : Nat} {xs : List Value} {w w' : World} (h : w.ownsRow base e k v n xs) (hb : Below w.heap.size w w') : w'.ownsRow base e k v n xs :=
  h.kept (row := none) ⟨hb.os, hb.tape, hb.output, hb.size, fun i hi _ => hb.block i hi⟩ (by cases v.ownBlock with | none => exact .inl rfl | some j => exact .inr (by simp))
variable {ops : Array Oper} {rest : List Oper} {o : Oper} {a : Act} {Q : Exit → Act → World → Prop}
/-- v is a slice of integers of the call's own, holding l -/
def RowI (base : Nat) (v : Value) (l : List Int) (w : World) : Prop := w.ownsRow base 3 1 v l.length (l.map (Value.int .i64))
theorem infoI' : (Tryz.prog.info? 3).map (fun i => (i.zero, i.size, i.bytes)) = some (some (.int .i64 0), 1, 8) := by kernel_rfl
theorem RowI.nil (base : Nat) (w : World) : RowI base (.slice none 0 0) [] w := World.ownsRow_nil _ _ _ _
theorem RowI.empty (w : World) (base : Nat) (hb : base ≤ w.heap.size) : RowI base (.slice (some ⟨w.heap.size, 0, none⟩) 0 0) [] (w.alloc (.cells #[] 3)) :=
  World.ownsRow_lit w #[] 0 hb (by unfold maxLen; omega) (by simp)
theorem RowI.ext {base : Nat} {v : Value} {l : List Int} {w w' : World} (h : RowI base v l w) (hb : Below w.heap.size w w') : RowI base v l w' := ownsRow_extI h hb
theorem RowI.forms {base : Nat} {v : Value} {l : List Int} {w : World} (h : RowI base v l w) : (v = .slice none 0 0 ∧ l.length = 0) ∨ ∃ g cap, v = .slice (some ⟨g, 0, none⟩) l.length cap := Go.Joins.ownsRow_forms h
theorem RowI.ints {base : Nat} {v : Value} {l : List Int} {w : World} (h : RowI base v l w) : ∃ x c, v = .slice x l.length c ∧ IntsAt w x l ∧ (∀ y, x = some y → base ≤ y.block) ∧ (x = none → c = 0) := by
  rcases h.forms with ⟨rfl, h0⟩ | ⟨g, cap, rfl⟩
  · obtain rfl := List.eq_nil_of_length_eq_zero h0
    exact ⟨none, 0, rfl, IntsAt.nil, (fun y e => by cases e), fun _ => rfl⟩
  · refine ⟨_, _, rfl, fun i hi => ⟨_, _, rfl, ?_⟩, (fun y e => by cases e; exact (World.ownsRow.lt h g rfl).1), (fun e => by cases e)⟩
    rw [Nat.zero_add, World.ownsRow.cellAt h i (by omega)]
    simp [hi]

theorem wp_appI (hgd : o.guard = none) (s x : Operand) (ho : o.op = .call { callee := .builtin .append, args := #[s, x], argTypes := #[111, 111] })
    (base : Nat) (v : Value) (l : List Int) (hs : a.eval s = v) (W : World) (h : RowI base v l W) (n : Int) (hx : a.eval x = .slice (some ⟨W.heap.size, 0, none⟩) 1 1) (hlen : l.length ≤ 10000000000) (hbase : base ≤ W.heap.size)
    (hK : ∀ v' w', RowI base v' (l ++ [n]) w' → Below base W w' → wpList Tryz.prog ops Q rest (a.put o.dst v') w') : wpList Tryz.prog ops Q (o :: rest) a (W.alloc (.cells #[.int .i64 n] 3)) := by
  obtain ⟨i0, hi, hz0, hz1, hz2⟩ := info_parts infoI'
  refine wpList_append_own _ hgd s x 111 ho base 3 i0 (.int .i64 0) 1 8 Tryz.underlying111 hi hz0 hz1 hz2 rfl (by decide) v l.length (l.map (Value.int .i64)) hs (World.ownsRow.alloc h _) ⟨W.heap.size, 0, none⟩ 1 1 [.int .i64 n] hx rfl (cell_one_new _ _ _) (by simp [Value.oneCell']) (by unfold maxLen; omega) (by omega) (by simp; omega) ?_
  intro v' w' hown hg _
  refine hK v' w' ?_ ?_
  · unfold RowI
    simpa using hown
  · exact ((Below.refl base W).alloc hbase _).grown hg (by simp; omega) (fun k e => (World.ownsRow.lt h k e).1)

end Go.Proofs.YtmokejjndkibhaaGreatDoor

namespace Go.Proofs.YtmokejjndkibhaaGreatDoor
open Go.RowKit
set_option linter.unusedVariables false
set_option linter.unusedSimpArgs false
open Ex

/-- the cells of the variable that holds operator o -/
def opF (o : Int) (c : Array Value) : Prop := ∃ fv, c = #[sV (opOf o).sign, .int .i64 (opOf o).prec, .int .i64 (opOf o).arg, .int .i64 (opOf o).res, fv]
/-- the values of the region that looks a known operator up -/
def op25 (B Bd : Nat) (o : Int) : Nat → (Nat → Value) → World → Prop
  | 0, s, W => ∃ b, s 0 = .map (some b) ∧ OpsAt W b opL
  | 1, s, _ => s 1 = .pointer (some ⟨B, 1, none⟩)
  | 2, s, _ => s 2 = .int .i64 o
  | 3, s, _ => ∃ fv, s 3 = (opOf o).val fv ∧ fv.oneCell' = true
  | 4, s, W => ∃ g cc, s 4 = .pointer (some ⟨g, 0, none⟩) ∧ Bd ≤ g ∧ W.heap[g]? = some (.cells cc tOp (0, 0)) ∧ cc.size = 5
  | 5, s, W => ∃ g cc, s 4 = .pointer (some ⟨g, 0, none⟩) ∧ Bd ≤ g ∧ W.heap[g]? = some (.cells cc tOp (0, 0)) ∧ opF o cc
  | _, _, _ => True
def op25D : Nat → List Nat := fun j => if j = 5 then [4] else [j]
theorem op25_st (B Bd : Nat) (o : Int) : ∀ j s s' W W', op25 B Bd o j s W → (∀ i ∈ op25D j, s' i = s i) → Grow Bd tOp (opF o) W W' → op25 B Bd o j s' W' := by
  intro j s s' W W' h hs hG
  match j, h, hs with
  | 0, ⟨b, h1, h2⟩, hs => exact ⟨b, (hs 0 (by simp [op25D])).trans h1, h2.grow hG (by decide) (by decide)⟩
  | 1, h, hs => exact (hs 1 (by simp [op25D])).trans h
  | 2, h, hs => exact (hs 2 (by simp [op25D])).trans h
  | 3, ⟨fv, h1, h2⟩, hs => exact ⟨fv, (hs 3 (by simp [op25D])).trans h1, h2⟩
  | 4, ⟨g, cc, h1, h2, h3, h4⟩, hs =>
    obtain ⟨c', h5, h6⟩ := hG.turn h3
    exact ⟨g, c', (hs 4 (by simp [op25D])).trans h1, h2, h5, h6.trans h4⟩
  | 5, ⟨g, cc, h1, h2, h3, h4⟩, hs =>
    obtain ⟨c', h5, h6⟩ := hG.done h3 h4
    exact ⟨g, c', (hs 4 (by simp [op25D])).trans h1, h2, h5, h6⟩
  | n + 6, h, hs => exact trivial
theorem six {α : Type} (fs : List α) (h : fs.length = 6) : ∃ a b c d e f, fs = [a, b, c, d, e, f] := by
  match fs, h with
  | [a, b, c, d, e, f], _ => exact ⟨a, b, c, d, e, f, rfl⟩
theorem fnOk_one {W : World} {k : Int} {fv : Value} (h : FnOk W k fv) : fv.oneCell' = true := by
  rcases h with ⟨_, rfl⟩ | ⟨n, g, _, rfl, _⟩ | ⟨n, g, _, rfl, _⟩ | ⟨n, g, h, _, rfl, _⟩ <;> rfl

def i2V (r : Int × Int) : Value := .tuple #[.int .i64 r.1, .int .i64 r.2]
theorem opOf_arg (o : Int) (h : knownB o = true) : (opOf o).arg = 0 ∨ (opOf o).arg = 1 ∨ (opOf o).arg = 2 := by
  have hk' : 3 ≤ o ∧ o ≤ 15 := by simpa [knownB] using h
  have hk2 : o = 3 ∨ o = 4 ∨ o = 5 ∨ o = 6 ∨ o = 7 ∨ o = 8 ∨ o = 9 ∨ o = 10 ∨ o = 11 ∨ o = 12 ∨ o = 13 ∨ o = 14 ∨ o = 15 := by omega
  rcases hk2 with rfl | rfl | rfl | rfl | rfl | rfl | rfl | rfl | rfl | rfl | rfl | rfl | rfl <;> decide

end Go.Proofs.YtmokejjndkibhaaGreatDoor

namespace Go.Proofs.YtmokejjndkibhaaGreatDoor
open Go.RowKit
set_option linter.unusedVariables false
set_option linter.unusedSimpArgs false
open Ex

end Go.Proofs.YtmokejjndkibhaaGreatDoor

namespace Go.Proofs.YtmokejjndkibhaaGreatDoor
open Go.RowKit
set_option linter.unusedVariables false
set_option linter.unusedSimpArgs false
open Ex

theorem chk_zero {e : Ex} (h : e.chk = 0) : e.size ≤ 100 ∧ e.height ≤ 12 ∧ e.fe = 0 := by
  unfold Ex.chk at h
  by_cases h1 : 100 < e.size
  · rw [if_pos h1] at h; cases h
  · rw [if_neg h1] at h
    by_cases h2 : 12 < e.height
    · rw [if_pos h2] at h; cases h
    · rw [if_neg h2] at h; exact ⟨by omega, by omega, h⟩
/-- what Type returns -/
def tyR (bs : List Bn) (e : Ex) : Int × Int := if e.chk ≠ 0 then (0, e.chk) else if bnds bs then e.ty bs else (0, 1)
theorem tyR_zero {bs : List Bn} {e : Ex} (h : (tyR bs e).2 = 0) : e.chk = 0 ∧ bnds bs = true ∧ tyR bs e = e.ty bs := by
  unfold tyR at h ⊢
  by_cases h1 : e.chk = 0
  · rw [if_neg (by simp [h1])] at h ⊢
    cases hb : bnds bs with
    | true => rw [hb] at h; exact ⟨h1, rfl, by simp⟩
    | false => rw [hb] at h; cases h
  · rw [if_pos h1] at h; exact absurd h h1

end Go.Proofs.YtmokejjndkibhaaGreatDoor

namespace Go.Proofs.YtmokejjndkibhaaGreatDoor
open Go.RowKit
set_option linter.unusedVariables false
set_option linter.unusedSimpArgs false
open Ex

theorem mapE_get (f : Ex → Int × Int) : ∀ (ts : List Ex), (mapE f ts).1 = 0 → ∀ (j : Nat) (h : j < ts.length), ∃ h2 : j < (mapE f ts).2.length, f ts[j] = ((mapE f ts).2[j], 0) := by
  intro ts
  induction ts with
  | nil => intro _ j h; simp at h
  | cons t ts ih =>
    intro h0 j h
    by_cases ht : (f t).2 = 0
    · have e1 : mapE f (t :: ts) = ((mapE f ts).1, (f t).1 :: (mapE f ts).2) := by simp [mapE, ht]
      rw [e1] at h0
      cases j with
      | zero => exact ⟨by rw [e1]; simp, by simp only [e1, List.getElem_cons_zero]; rw [← ht]⟩
      | succ j =>
        obtain ⟨h2, h3⟩ := ih h0 j (by simpa using h)
        exact ⟨by rw [e1]; simpa using h2, by simp only [e1, List.getElem_cons_succ]; exact h3⟩
    · have e1 : (mapE f (t :: ts)).1 = (f t).2 := by simp [mapE, ht]
      rw [e1] at h0
      exact absurd h0 ht
theorem bnds_find {bs : List Bn} (hb : bnds bs = true) {n : List UInt8} {b : Bn} (h : bs.find? (isN n) = some b) : (b.type = 1 ∧ inM b.value) ∨ (b.type = 2 ∧ (b.value = 0 ∨ b.value = 1)) := by
  have hm := List.mem_of_find?_eq_some h
  have hall : ∀ (bs : List Bn) (prev : Option (List UInt8)), bnsOk prev bs = true → ∀ b ∈ bs, ∃ q, b.ok q = true := by
    intro bs
    induction bs with
    | nil => intro _ _ b hb; simp at hb
    | cons x xs ih =>
      intro prev h b hb
      rw [bnsOk, Bool.and_eq_true] at h
      rcases List.mem_cons.1 hb with rfl | hb
      · exact ⟨prev, h.1⟩
      · exact ih _ h.2 b hb
  unfold bnds at hb
  rw [Bool.and_eq_true] at hb
  obtain ⟨q, hq⟩ := hall bs none hb.1 b hm
  unfold Bn.ok at hq
  simp only [Bool.and_eq_true, decide_eq_true_eq] at hq
  obtain ⟨⟨⟨_, _⟩, ht⟩, hv⟩ := hq
  by_cases h2 : b.type = 2
  · rw [if_pos h2] at hv
    exact .inr ⟨h2, by simpa using hv⟩
  · rw [if_neg h2] at hv
    exact .inl ⟨by omega, by simpa using hv⟩
theorem opOf_res (o : Int) (h1 : 3 ≤ o) (h2 : o ≤ 15) : (opOf o).res = if o ≤ 7 then 1 else 2 := by
  have hk2 : o = 3 ∨ o = 4 ∨ o = 5 ∨ o = 6 ∨ o = 7 ∨ o = 8 ∨ o = 9 ∨ o = 10 ∨ o = 11 ∨ o = 12 ∨ o = 13 ∨ o = 14 ∨ o = 15 := by omega
  rcases hk2 with rfl | rfl | rfl | rfl | rfl | rfl | rfl | rfl | rfl | rfl | rfl | rfl | rfl <;> rfl
theorem opE_sound {o x y r : Int} (h1 : 3 ≤ o) (h2 : o ≤ 15) (h : opE o x y = (r, 0)) : inM r ∧ (8 ≤ o → r = 0 ∨ r = 1) := by
  unfold opE at h
  split at h
  · rename_i hne; simp only [Prod.mk.injEq] at h; exact absurd h.2 hne
  · rename_i hz
    split at h
    · rename_i hin
      simp only [Prod.mk.injEq] at h
      obtain ⟨rfl, _⟩ := h
      refine ⟨hin, fun h8 => ?_⟩
      unfold opR
      rw [if_neg (by omega), if_neg (by omega), if_neg (by omega), if_neg (by omega), if_neg (by omega)]
      simp only
      cases truB o x y <;> simp
    · simp at h
theorem ty_mk {bs : List Bn} {k o : Int} {n : List UInt8} {v : Int} {ts : List Ex} {t : Int} (h : (Ex.mk k o n v ts).ty bs = (t, 0)) : (mapE (Ex.ty bs) ts).1 = 0 ∧ tyN bs k o n (mapE (Ex.ty bs) ts).2 = (t, 0) := by
  simp only [Ex.ty, tys_map] at h
  by_cases h0 : (mapE (Ex.ty bs) ts).1 = 0
  · rw [if_neg (by simp [h0])] at h; exact ⟨h0, h⟩
  · rw [if_pos h0] at h
    simp only [Prod.mk.injEq] at h
    exact absurd h.2 h0
theorem ev_mk {bs : List Bn} {k o : Int} {n : List UInt8} {v : Int} {ts : List Ex} {t : Int} (h : (Ex.mk k o n v ts).ev bs = (t, 0)) : (mapE (Ex.ev bs) ts).1 = 0 ∧ evN bs k o n v (mapE (Ex.ev bs) ts).2 = (t, 0) := by
  simp only [Ex.ev, evs_map] at h
  by_cases h0 : (mapE (Ex.ev bs) ts).1 = 0
  · rw [if_neg (by simp [h0])] at h; exact ⟨h0, h⟩
  · rw [if_pos h0] at h
    simp only [Prod.mk.injEq] at h
    exact absurd h.2 h0
theorem len1 {α : Type} {l : List α} (h : l.length = 1) : ∃ a, l = [a] := List.length_eq_one_iff.1 h
theorem len2 {α : Type} {l : List α} (h : l.length = 2) : ∃ a b, l = [a, b] := by
  match l, h with
  | [a, b], _ => exact ⟨a, b, rfl⟩
/-- types are 1 and 2, values in range, those of booleans 0 or 1 -/
theorem ev_sound {bs : List Bn} (hb : bnds bs = true) : ∀ (n : Nat) (e : Ex), e.size ≤ n → e.fe = 0 → ∀ t, e.ty bs = (t, 0) → (t = 1 ∨ t = 2) ∧ ∀ x, e.ev bs = (x, 0) → inM x ∧ (t = 2 → x = 0 ∨ x = 1) := by
  intro n
  induction n with
  | zero => intro e he; have := e.size_pos; omega
  | succ n ih =>
    intro e he hfe t ht
    obtain ⟨k, o, nm, v, ts⟩ := e
    obtain ⟨hpc, hfes⟩ := fe_mk hfe
    obtain ⟨ht0, htn⟩ := ty_mk ht
    have hsz : ∀ j (h : j < ts.length), (ts[j]).size ≤ n := fun j h => by have := size_get ts j h; simp only [Ex.size] at he; omega
    have hlen := mapE_len _ ts ht0
    rcases pc_zero hpc with ⟨rfl, rfl, rfl, hm, hv1, hv2⟩ | ⟨rfl, rfl, rfl, hm, hnm⟩ | ⟨rfl, rfl, rfl, hm, ho⟩ | ⟨rfl, rfl, rfl, hm, ho1, ho2⟩
    · have e1 : t = 1 := by simp [tyN] at htn; exact htn.symm
      subst e1
      refine ⟨.inl rfl, fun x hx => ?_⟩
      obtain ⟨_, hx2⟩ := ev_mk hx
      have : x = v := by simp [evN] at hx2; exact hx2.symm
      subst this
      exact ⟨⟨by omega, by omega⟩, fun h => by omega⟩
    · have hfi : fdIs bs nm = true := by
        cases hf : fdIs bs nm with
        | true => rfl
        | false => simp [tyN, hf] at htn
      obtain ⟨b, hbf⟩ : ∃ b, bs.find? (isN nm) = some b := Option.isSome_iff_exists.1 hfi
      have hfd : fdB bs nm = b := by unfold fdB; rw [hbf]; rfl
      have e1 : t = b.type := by simp [tyN, hfi, hfd] at htn; exact htn.symm
      have hbb := bnds_find hb hbf
      subst e1
      refine ⟨by omega, fun x hx => ?_⟩
      obtain ⟨_, hx2⟩ := ev_mk hx
      have : x = b.value := by simp [evN, hfd] at hx2; exact hx2.symm
      subst this
      rcases hbb with ⟨h1, h2⟩ | ⟨h1, h2⟩
      · exact ⟨h2, fun h => by omega⟩
      · exact ⟨by unfold inM; omega, fun _ => h2⟩
    · obtain ⟨a, rfl⟩ := len1 hm
      obtain ⟨h2, h3⟩ := mapE_get _ _ ht0 0 (by simp)
      simp only [List.getElem_cons_zero] at h3
      have ia := ih a (hsz 0 (by simp)) (fes_get hfes 0 (by simp)) _ h3
      have hg : (mapE (Ex.ty bs) [a]).2.getD 0 0 = (mapE (Ex.ty bs) [a]).2[0] := by rw [List.getD_eq_getElem?_getD, List.getElem?_eq_getElem h2]; rfl
      generalize (mapE (Ex.ty bs) [a]).2[0] = ta at *
      have htt : ta = (if o = 2 then 2 else 1) ∧ t = (if o = 2 then 2 else 1) := by
        unfold tyN at htn
        rw [if_neg (by decide), if_neg (by decide), if_pos rfl, hg] at htn
        by_cases hh : ta = (if o = 2 then 2 else 1)
        · rw [if_pos hh] at htn
          simp only [Prod.mk.injEq] at htn
          exact ⟨hh, htn.1.symm⟩
        · rw [if_neg hh] at htn
          simp only [Prod.mk.injEq] at htn
          exact absurd htn.2 (by decide)
      refine ⟨by split at htt <;> omega, fun x hx => ?_⟩
      obtain ⟨hx1, hx2⟩ := ev_mk hx
      obtain ⟨h4, h5⟩ := mapE_get _ _ hx1 0 (by simp)
      simp only [List.getElem_cons_zero] at h5
      have hva := ia.2 _ h5
      have hg2 : (mapE (Ex.ev bs) [a]).2.getD 0 0 = (mapE (Ex.ev bs) [a]).2[0] := by rw [List.getD_eq_getElem?_getD, List.getElem?_eq_getElem h4]; rfl
      generalize (mapE (Ex.ev bs) [a]).2[0] = va at *
      unfold evN at hx2
      rw [if_neg (by decide), if_neg (by decide), if_pos rfl, hg2] at hx2
      simp only [Prod.mk.injEq, and_true] at hx2
      unfold inM at *
      rcases ho with rfl | rfl
      · simp at htt hx2; omega
      · simp at htt hx2; omega
    · have hl2 : (mapE (Ex.ty bs) ts).2.length = 2 := by rw [hlen, hm]
      have htt : t = (opOf o).res := by
        unfold tyN at htn
        rw [if_neg (by decide), if_neg (by decide), if_neg (by decide)] at htn
        split at htn
        · simp only [Prod.mk.injEq] at htn; exact htn.1.symm
        · simp at htn
      rw [opOf_res o ho1 ho2] at htt
      refine ⟨by split at htt <;> omega, fun x hx => ?_⟩
      obtain ⟨hx1, hx2⟩ := ev_mk hx
      unfold evN at hx2
      rw [if_neg (by decide), if_neg (by decide), if_neg (by decide)] at hx2
      obtain ⟨q1, q2⟩ := opE_sound ho1 ho2 hx2
      exact ⟨q1, fun h => q2 (by split at htt <;> omega)⟩

end Go.Proofs.YtmokejjndkibhaaGreatDoor

namespace Go.Proofs.YtmokejjndkibhaaGreatDoor
open Go.RowKit
set_option linter.unusedVariables false
set_option linter.unusedSimpArgs false
open Ex

theorem abs_wide (x : Int) (h1 : -2199023255552 ≤ x) (h2 : x ≤ 2199023255552) : Does 142 #[.int .i64 x] (.int .i64 (x.natAbs : Int)) := by
  intro w
  by_cases h : 0 ≤ x
  · have hz := Lib.hid (show ((x.natAbs : Nat) : Int) = x by omega)
    rw [hz.out]
    go_enter Tryz.func142, Tryz.ntmps142
    go_wp2
    go_ret
    exact ⟨by first | rfl | exact ret_int (by omega), rfl⟩
  · have hz := Lib.hid (show ((x.natAbs : Nat) : Int) = -x by omega)
    rw [hz.out]
    go_enter Tryz.func142, Tryz.ntmps142
    go_wp2
    go_ret
    exact ⟨by first | rfl | exact ret_int (by omega), rfl⟩
theorem opR_bd {o x y : Int} (h1 : 3 ≤ o) (h2 : o ≤ 15) (hx : inM x) (hy : inM y) (h : (opR o x y).2 = 0) : -2199023255552 ≤ (opR o x y).1 ∧ (opR o x y).1 ≤ 2199023255552 := by
  have hk2 : o = 3 ∨ o = 4 ∨ o = 5 ∨ o = 6 ∨ o = 7 ∨ 8 ≤ o := by omega
  have hx' := hx
  have hy' := hy
  unfold inM at hx' hy'
  rcases hk2 with rfl | rfl | rfl | rfl | rfl | h8
  · unfold opR; rw [if_pos rfl]; simp only; omega
  · unfold opR; rw [if_neg (by decide), if_pos rfl]; simp only; omega
  · unfold opR at h ⊢
    rw [if_neg (by decide), if_neg (by decide), if_pos rfl] at h ⊢
    cases hm : mulBig x y with
    | true => rw [hm] at h; simp at h
    | false =>
      have := mul_bd x y hx hy hm
      unfold inM at this
      simp only [Bool.false_eq_true, if_false]; omega
  · unfold opR at h ⊢
    rw [if_neg (by decide), if_neg (by decide), if_neg (by decide), if_pos rfl] at h ⊢
    by_cases h0 : y = 0
    · rw [if_pos h0] at h; simp at h
    · rw [if_neg h0]
      have := tdiv_bd x y hx h0
      unfold inM at this
      simp only; omega
  · unfold opR at h ⊢
    rw [if_neg (by decide), if_neg (by decide), if_neg (by decide), if_neg (by decide), if_pos rfl] at h ⊢
    by_cases h0 : y = 0
    · rw [if_pos h0] at h; simp at h
    · rw [if_neg h0]
      have := tmod_bd x y hx
      unfold inM at this
      simp only; omega
  · unfold opR
    rw [if_neg (by omega), if_neg (by omega), if_neg (by omega), if_neg (by omega), if_neg (by omega)]
    cases truB o x y <;> simp

/-- the values of the region that computes an operator -/
def vl12 (B xb xo cx : Nat) (o x y : Int) : Nat → (Nat → Value) → World → Prop
  | 0, s, W => ∃ b, s 0 = .map (some b) ∧ OpsAt W b opL
  | 1, s, _ => s 1 = .pointer (some ⟨B, 1, none⟩)
  | 2, s, _ => s 2 = .int .i64 o
  | 3, s, W => ∃ fv, s 3 = (opOf o).val fv ∧ FnOk W o fv
  | 4, s, W => FnOk W o (s 4)
  | 5, s, _ => s 5 = .slice (some ⟨xb, xo, none⟩) 2 cx
  | 6, s, _ => s 6 = .pointer (some ⟨xb, xo, none⟩)
  | 7, s, _ => s 7 = .int .i64 x
  | 8, s, _ => s 8 = .slice (some ⟨xb, xo, none⟩) 2 cx
  | 9, s, _ => s 9 = .pointer (some ⟨xb, xo + 1, none⟩)
  | 10, s, _ => s 10 = .int .i64 y
  | 11, s, _ => s 11 = i2V (opR o x y)
  | 12, s, _ => s 12 = i2V (opR o x y)
  | 13, s, _ => s 13 = .int .i64 (opR o x y).1
  | 14, s, _ => s 14 = .int .i64 (opR o x y).2
  | 15, s, _ => s 15 = .int .i64 (opR o x y).1
  | 16, s, _ => s 16 = .int .i64 (opR o x y).2
  | _, _, _ => True
theorem vl12_st (B xb xo cx : Nat) (o x y : Int) : ∀ j s s' W W', vl12 B xb xo cx o x y j s W → (∀ i ∈ [j], s' i = s i) → Ext W W' → vl12 B xb xo cx o x y j s' W' := by
  intro j s s' W W' h hs hG
  match j, h, hs with
  | 0, ⟨b, h1, h2⟩, hs => exact ⟨b, (hs 0 (by simp)).trans h1, h2.ext hG⟩
  | 1, h, hs => exact (hs 1 (by simp)).trans h
  | 2, h, hs => exact (hs 2 (by simp)).trans h
  | 3, ⟨fv, h1, h2⟩, hs => exact ⟨fv, (hs 3 (by simp)).trans h1, h2.keep (fun _ _ _ _ h => h.ext hG)⟩
  | 4, h, hs =>
    have e := hs 4 (by simp)
    show FnOk W' o (s' 4)
    rw [e]
    exact (show FnOk W o (s 4) from h).keep (fun _ _ _ _ h => h.ext hG)
  | 5, h, hs => exact (hs 5 (by simp)).trans h
  | 6, h, hs => exact (hs 6 (by simp)).trans h
  | 7, h, hs => exact (hs 7 (by simp)).trans h
  | 8, h, hs => exact (hs 8 (by simp)).trans h
  | 9, h, hs => exact (hs 9 (by simp)).trans h
  | 10, h, hs => exact (hs 10 (by simp)).trans h
  | 11, h, hs => exact (hs 11 (by simp)).trans h
  | 12, h, hs => exact (hs 12 (by simp)).trans h
  | 13, h, hs => exact (hs 13 (by simp)).trans h
  | 14, h, hs => exact (hs 14 (by simp)).trans h
  | 15, h, hs => exact (hs 15 (by simp)).trans h
  | 16, h, hs => exact (hs 16 (by simp)).trans h
  | n + 17, h, hs => exact trivial
theorem seventeen {α : Type} (fs : List α) (h : fs.length = 17) : ∃ a0 a1 a2 a3 a4 a5 a6 a7 a8 a9 a10 a11 a12 a13 a14 a15 a16, fs = [a0, a1, a2, a3, a4, a5, a6, a7, a8, a9, a10, a11, a12, a13, a14, a15, a16] := by
  match fs, h with
  | [a0, a1, a2, a3, a4, a5, a6, a7, a8, a9, a10, a11, a12, a13, a14, a15, a16], _ => exact ⟨a0, a1, a2, a3, a4, a5, a6, a7, a8, a9, a10, a11, a12, a13, a14, a15, a16, rfl⟩

end Go.Proofs.YtmokejjndkibhaaGreatDoor

namespace Go.Proofs.YtmokejjndkibhaaGreatDoor
open Go.RowKit
set_option linter.unusedVariables false
set_option linter.unusedSimpArgs false
open Ex

end Go.Proofs.YtmokejjndkibhaaGreatDoor

namespace Go.Proofs.YtmokejjndkibhaaGreatDoor
open Go.RowKit
set_option linter.unusedVariables false
set_option linter.unusedSimpArgs false
open Ex

end Go.Proofs.YtmokejjndkibhaaGreatDoor

namespace Go.Proofs.YtmokejjndkibhaaGreatDoor
open Go.RowKit
set_option linter.unusedVariables false
set_option linter.unusedSimpArgs false
open Ex

/-- what Eval returns -/
def evR (bs : List Bn) (e : Ex) : Int × Int := if (tyR bs e).2 ≠ 0 then (0, (tyR bs e).2) else e.ev bs

end Go.Proofs.YtmokejjndkibhaaGreatDoor

namespace Go.Proofs.YtmokejjndkibhaaGreatDoor
open Go.RowKit
set_option linter.unusedVariables false
set_option linter.unusedSimpArgs false

namespace Ex
mutual
/-- the arguments of e lie at p, in blocks of S -/
def AtB (S : Nat → Prop) (w : World) (p : Option Addr) : Ex → Prop
  | .mk k o n x ts => fits (.mk k o n x ts) ∧ AtBL S w p 0 ts
def AtBL (S : Nat → Prop) (w : World) (p : Option Addr) (i : Nat) : List Ex → Prop
  | [] => True
  | e :: es => (∃ b o q c, p = some ⟨b, o, none⟩ ∧ S b ∧ cells w b (o + i * 5) e q c ∧ AtB S w q e) ∧ AtBL S w p (i + 1) es
end
mutual
theorem AtB.at {S : Nat → Prop} {w : World} : ∀ {p : Option Addr} {e : Ex}, AtB S w p e → Ex.At w p e
  | _, .mk _ _ _ _ _, h => ⟨h.1, AtBL.at h.2⟩
theorem AtBL.at {S : Nat → Prop} {w : World} : ∀ {p : Option Addr} {i : Nat} {es : List Ex}, AtBL S w p i es → AtL w p i es
  | _, _, [], _ => trivial
  | _, _, _ :: _, ⟨⟨b, o, q, c, e1, _, e2, e3⟩, h2⟩ => ⟨⟨b, o, q, c, e1, e2, AtB.at e3⟩, AtBL.at h2⟩
end
mutual
theorem At.toB {w : World} : ∀ {p : Option Addr} {e : Ex}, Ex.At w p e → AtB (· < w.heap.size) w p e
  | _, .mk _ _ _ _ _, h => ⟨h.1, AtL.toB h.2⟩
theorem AtL.toB {w : World} : ∀ {p : Option Addr} {i : Nat} {es : List Ex}, AtL w p i es → AtBL (· < w.heap.size) w p i es
  | _, _, [], _ => trivial
  | _, _, _ :: _, ⟨⟨b, o, q, c, e1, e2, e3⟩, h2⟩ => ⟨⟨b, o, q, c, e1, cell_lt' e2.1, e2, At.toB e3⟩, AtL.toB h2⟩
end
theorem cells.block {w W : World} {b o : Nat} {e : Ex} {p : Option Addr} {c : Nat} (h : cells w b o e p c) (hb : W.heap[b]? = w.heap[b]?) : cells W b o e p c := by
  have hc : ∀ i, W.cell? ⟨b, i, none⟩ = w.cell? ⟨b, i, none⟩ := fun i => by unfold World.cell?; simp only [hb]
  obtain ⟨h0, h1, h2, h3, h4⟩ := h
  exact ⟨(hc _).trans h0, (hc _).trans h1, (hc _).trans h2, (hc _).trans h3, (hc _).trans h4⟩
mutual
/-- another class, another world: the blocks that e lies in are as they were -/
theorem AtB.keep {S S' : Nat → Prop} {w W : World} (hS : ∀ b, S b → b < w.heap.size → S' b ∧ W.heap[b]? = w.heap[b]?) : ∀ {p : Option Addr} {e : Ex}, AtB S w p e → AtB S' W p e
  | _, .mk _ _ _ _ _, h => ⟨h.1, AtBL.keep hS h.2⟩
theorem AtBL.keep {S S' : Nat → Prop} {w W : World} (hS : ∀ b, S b → b < w.heap.size → S' b ∧ W.heap[b]? = w.heap[b]?) : ∀ {p : Option Addr} {i : Nat} {es : List Ex}, AtBL S w p i es → AtBL S' W p i es
  | _, _, [], _ => trivial
  | _, _, _ :: _, ⟨⟨b, o, q, c, e1, e0, e2, e3⟩, h2⟩ => ⟨⟨b, o, q, c, e1, (hS b e0 (cell_lt' e2.1)).1, e2.block (hS b e0 (cell_lt' e2.1)).2, AtB.keep hS e3⟩, AtBL.keep hS h2⟩
end
theorem AtB.ext {S : Nat → Prop} {w W : World} {p : Option Addr} {e : Ex} (h : AtB S w p e) (hE : Ext w W) : AtB S W p e := h.keep (fun b hb hl => ⟨hb, hE.below.block b hl⟩)
theorem AtB.imp {S S' : Nat → Prop} {w : World} {p : Option Addr} {e : Ex} (h : AtB S w p e) (hS : ∀ b, S b → b < w.heap.size → S' b) : AtB S' w p e := h.keep (fun b hb hl => ⟨hS b hb hl, rfl⟩)
theorem AtB.fit {S : Nat → Prop} {w : World} {p : Option Addr} {e : Ex} (h : AtB S w p e) : fits e := by cases e; exact h.1
theorem AtBL.get {S : Nat → Prop} {w : World} {p : Option Addr} {es : List Ex} : ∀ {i : Nat}, AtBL S w p i es → ∀ j (h : j < es.length), ∃ b o q c, p = some ⟨b, o, none⟩ ∧ S b ∧ cells w b (o + (i + j) * 5) es[j] q c ∧ AtB S w q es[j] := by
  induction es with
  | nil => intro i h j hj; simp at hj
  | cons e es ih =>
    intro i h j hj
    obtain ⟨h1, h2⟩ := h
    cases j with
    | zero => exact h1
    | succ j =>
      obtain ⟨b, o, q, c, e1, e2, e3, e4⟩ := ih h2 j (by simpa using hj)
      exact ⟨b, o, q, c, e1, e2, by rw [show i + (j + 1) = i + 1 + j by omega]; exact e3, e4⟩
theorem AtBL.of_get {S : Nat → Prop} {w : World} {b o : Nat} {es : List Ex} (hb : es ≠ [] → S b) : ∀ {i : Nat}, (∀ j (h : j < es.length), ∃ q c, cells w b (o + (i + j) * 5) es[j] q c ∧ AtB S w q es[j]) → AtBL S w (some ⟨b, o, none⟩) i es := by
  induction es with
  | nil => intro i _; trivial
  | cons e es ih =>
    intro i h
    obtain ⟨q, c, h1, h2⟩ := h 0 (by simp)
    refine ⟨⟨b, o, q, c, rfl, hb (by simp), h1, h2⟩, ih (fun hne => hb (by simp)) (fun j hj => ?_)⟩
    obtain ⟨q, c, h1, h2⟩ := h (j + 1) (by simpa using hj)
    exact ⟨q, c, by rw [show i + 1 + j = i + (j + 1) by omega]; exact h1, h2⟩
end Ex

/-- an expression, and where its arguments lie -/
abbrev XE := Ex × Option Addr × Nat
/-- the cells of an element -/
def ec (r : XE) : List Value := [.int .i64 r.1.kind, .int .i64 r.1.op, sV r.1.name, .int .i64 r.1.value, .slice r.2.1 r.1.args.length r.2.2]
def rowC (rs : List XE) : List Value := rs.flatMap ec
theorem rowC_length (rs : List XE) : (rowC rs).length = rs.length * 5 := by
  induction rs with
  | nil => rfl
  | cons r rs ih => simp only [rowC, List.flatMap_cons, List.length_append] at ih ⊢; rw [ih]; simp [ec]; omega
theorem rowC_get (rs : List XE) (j i : Nat) (hj : j < rs.length) (hi : i < 5) : (rowC rs)[j * 5 + i]? = (ec rs[j])[i]? := by
  induction rs generalizing j with
  | nil => simp at hj
  | cons r rs ih =>
    simp only [rowC, List.flatMap_cons] at ih ⊢
    cases j with
    | zero => rw [List.getElem?_append_left (by simp [ec]; omega)]; simp
    | succ j =>
      rw [List.getElem?_append_right (by simp [ec]; omega)]
      have : (j + 1) * 5 + i - (ec r).length = j * 5 + i := by simp [ec]; omega
      rw [this, ih j (by simpa using hj)]
      simp
theorem rowC_one (rs : List XE) : ∀ u ∈ rowC rs, u.oneCell' = true := by
  intro u hu
  obtain ⟨r, _, h⟩ := List.mem_flatMap.1 hu
  simp only [ec, List.mem_cons, List.not_mem_nil, or_false] at h
  rcases h with rfl | rfl | rfl | rfl | rfl <;> rfl
theorem rowC_app (a b : List XE) : rowC (a ++ b) = rowC a ++ rowC b := by simp [rowC]
/-- the cells of a row, one element replaced -/
theorem rowC_set (rs : List XE) (j : Nat) (hj : j < rs.length) (r : XE) : (((((rowC rs).set (j * 5) (.int .i64 r.1.kind)).set (j * 5 + 1) (.int .i64 r.1.op)).set (j * 5 + 2) (sV r.1.name)).set (j * 5 + 3) (.int .i64 r.1.value)).set (j * 5 + 4) (.slice r.2.1 r.1.args.length r.2.2) = rowC (rs.set j r) := by
  induction rs generalizing j with
  | nil => simp at hj
  | cons x rs ih =>
    cases j with
    | zero => simp [rowC, ec]
    | succ j =>
      have := ih j (by simpa using hj)
      have h5 : (j + 1) * 5 = j * 5 + 1 + 1 + 1 + 1 + 1 := by omega
      simp only [rowC, List.flatMap_cons, List.set_cons_succ] at this ⊢
      rw [← this, h5]
      simp [ec]
/-- v is a row of expressions of the call's own -/
def RowE (base : Nat) (v : Value) (rs : List XE) (w : World) : Prop := w.ownsRow base tEx 5 v rs.length (rowC rs)
theorem infoEx : (Tryz.prog.info? 25).map (fun i => (i.zero, i.size, i.bytes)) = some (some (.agg #[.int .i64 0, .int .i64 0, sV [], .int .i64 0, .slice none 0 0]), 5, 64) := by kernel_rfl
theorem RowE.ext {base : Nat} {v : Value} {rs : List XE} {w w' : World} (h : RowE base v rs w) (hb : Ext w w') : RowE base v rs w' := ownsRow_extI h hb
theorem RowE.forms {base : Nat} {v : Value} {rs : List XE} {w : World} (h : RowE base v rs w) : (v = .slice none 0 0 ∧ rs = []) ∨ ∃ g cap, v = .slice (some ⟨g, 0, none⟩) rs.length cap ∧ base ≤ g ∧ g < w.heap.size := by
  rcases Go.Joins.ownsRow_forms h with ⟨h1, h2⟩ | ⟨g, cap, h1⟩
  · exact .inl ⟨h1, List.eq_nil_of_length_eq_zero h2⟩
  · subst h1
    exact .inr ⟨g, cap, rfl, World.ownsRow.lt h g rfl⟩
theorem RowE.cells {base g cap : Nat} {rs : List XE} {w : World} (h : RowE base (.slice (some ⟨g, 0, none⟩) rs.length cap) rs w) (j : Nat) (hj : j < rs.length) : Ex.cells w g (j * 5) rs[j].1 rs[j].2.1 rs[j].2.2 := by
  have hc : ∀ i, i < 5 → w.cell? ⟨g, j * 5 + i, none⟩ = (ec rs[j])[i]? := fun i hi => by
    rw [World.ownsRow.cellAt h (j * 5 + i) (by omega), rowC_get rs j i hj hi]
  exact ⟨hc 0 (by omega), hc 1 (by omega), hc 2 (by omega), hc 3 (by omega), hc 4 (by omega)⟩
/-- the world behind a store of a whole element -/
def set5 (w : World) (g o : Nat) (r : XE) : World :=
  ((((w.setCell ⟨g, o, none⟩ (.int .i64 r.1.kind)).setCell ⟨g, o + 1, none⟩ (.int .i64 r.1.op)).setCell ⟨g, o + 2, none⟩ (sV r.1.name)).setCell ⟨g, o + 3, none⟩ (.int .i64 r.1.value)).setCell ⟨g, o + 4, none⟩ (.slice r.2.1 r.1.args.length r.2.2)
theorem RowE.store {base g cap : Nat} {rs : List XE} {w : World} (h : RowE base (.slice (some ⟨g, 0, none⟩) rs.length cap) rs w) (j : Nat) (hj : j < rs.length) (r : XE) : RowE base (.slice (some ⟨g, 0, none⟩) (rs.set j r).length cap) (rs.set j r) (set5 w g (j * 5) r) := by
  unfold RowE set5
  rw [List.length_set, ← rowC_set rs j hj r]
  exact (World.ownsRow.stored (World.ownsRow.stored (World.ownsRow.stored (World.ownsRow.stored (World.ownsRow.stored h _ _).1 _ _).1 _ _).1 _ _).1 _ _).1
theorem set5_below {w : World} {g o n₀ : Nat} {r : XE} (h : n₀ ≤ g) : Below n₀ w (set5 w g o r) := by
  unfold set5
  exact (((((Below.refl n₀ w).setCell (p := ⟨g, o, none⟩) h _).setCell (p := ⟨g, o + 1, none⟩) h _).setCell (p := ⟨g, o + 2, none⟩) h _).setCell (p := ⟨g, o + 3, none⟩) h _).setCell (p := ⟨g, o + 4, none⟩) h _
theorem set5_other {w : World} {g o b : Nat} {r : XE} (h : b ≠ g) : (set5 w g o r).heap[b]? = w.heap[b]? := by
  unfold set5
  rw [Below.heap_setCell _ ⟨g, o + 4, none⟩ _ _ h, Below.heap_setCell _ ⟨g, o + 3, none⟩ _ _ h, Below.heap_setCell _ ⟨g, o + 2, none⟩ _ _ h, Below.heap_setCell _ ⟨g, o + 1, none⟩ _ _ h, Below.heap_setCell _ ⟨g, o, none⟩ _ _ h]
theorem set5_size {w : World} {g o : Nat} {r : XE} : (set5 w g o r).heap.size = w.heap.size := by unfold set5; simp [World.setCell]

end Go.Proofs.YtmokejjndkibhaaGreatDoor

namespace Go.Proofs.YtmokejjndkibhaaGreatDoor
open Go.RowKit
set_option linter.unusedVariables false
set_option linter.unusedSimpArgs false

theorem rows_of {S : Nat → Prop} {w : World} {p : Option Addr} : ∀ {ts : List Ex} {i : Nat}, Ex.AtBL S w p i ts → ∃ rs : List XE, rs.map (·.1) = ts ∧ ∀ j (h : j < rs.length), ∃ b o, p = some ⟨b, o, none⟩ ∧ S b ∧ Ex.cells w b (o + (i + j) * 5) rs[j].1 rs[j].2.1 rs[j].2.2 ∧ Ex.AtB S w rs[j].2.1 rs[j].1 := by
  intro ts
  induction ts with
  | nil => intro i _; exact ⟨[], rfl, fun j h => by simp at h⟩
  | cons t ts ih =>
    intro i h
    obtain ⟨⟨b, o, q, c, e1, e2, e3, e4⟩, h2⟩ := h
    obtain ⟨rs, h3, h4⟩ := ih h2
    refine ⟨(t, q, c) :: rs, by simp [h3], fun j hj => ?_⟩
    cases j with
    | zero => exact ⟨b, o, e1, e2, e3, e4⟩
    | succ j =>
      obtain ⟨b', o', f1, f2, f3, f4⟩ := h4 j (by simpa using hj)
      exact ⟨b', o', f1, f2, by rw [show i + (j + 1) = i + 1 + j by omega]; exact f3, f4⟩
theorem rowC_at {w : World} {b o : Nat} {rs : List XE} (h : ∀ j (h : j < rs.length), Ex.cells w b (o + j * 5) rs[j].1 rs[j].2.1 rs[j].2.2) : ∀ j u, (rowC rs)[j]? = some u → w.cell? ((⟨b, o, none⟩ : Addr).add j) = some u := by
  intro j u hu
  have hj : j < rs.length * 5 := by rw [← rowC_length]; exact (List.getElem?_eq_some_iff.1 hu).1
  have e : (⟨b, o, none⟩ : Addr).add j = ⟨b, o + j, none⟩ := by unfold Addr.add; split <;> simp_all
  rw [e]
  have hq : j / 5 < rs.length := by omega
  obtain ⟨c0, c1, c2, c3, c4⟩ := h (j / 5) hq
  have hr : j = j / 5 * 5 + j % 5 := by omega
  have hm : j % 5 < 5 := by omega
  rw [hr, rowC_get rs (j / 5) (j % 5) hq hm] at hu
  rw [hr]
  have h5 : j % 5 = 0 ∨ j % 5 = 1 ∨ j % 5 = 2 ∨ j % 5 = 3 ∨ j % 5 = 4 := by omega
  generalize j % 5 = m at *
  generalize j / 5 = d at *
  rcases h5 with rfl | rfl | rfl | rfl | rfl
  · simp only [ec, List.getElem?_cons_zero, Option.some.injEq] at hu; rw [← hu]; simpa using c0
  · simp only [ec, List.getElem?_cons_zero, List.getElem?_cons_succ, Option.some.injEq] at hu; rw [← hu, ← Nat.add_assoc]; exact c1
  · simp only [ec, List.getElem?_cons_zero, List.getElem?_cons_succ, Option.some.injEq] at hu; rw [← hu, ← Nat.add_assoc]; exact c2
  · simp only [ec, List.getElem?_cons_zero, List.getElem?_cons_succ, Option.some.injEq] at hu; rw [← hu, ← Nat.add_assoc]; exact c3
  · simp only [ec, List.getElem?_cons_zero, List.getElem?_cons_succ, Option.some.injEq] at hu; rw [← hu, ← Nat.add_assoc]; exact c4

theorem rows_at {w : World} {p : Option Addr} : ∀ {ts : List Ex} {i : Nat}, Ex.AtL w p i ts → ∃ rs : List XE, rs.map (·.1) = ts ∧ ∀ j (h : j < rs.length), ∃ b o, p = some ⟨b, o, none⟩ ∧ Ex.cells w b (o + (i + j) * 5) rs[j].1 rs[j].2.1 rs[j].2.2 ∧ Ex.At w rs[j].2.1 rs[j].1 := by
  intro ts
  induction ts with
  | nil => intro i _; exact ⟨[], rfl, fun j h => by simp at h⟩
  | cons t ts ih =>
    intro i h
    obtain ⟨⟨b, o, q, c, e1, e3, e4⟩, h2⟩ := h
    obtain ⟨rs, h3, h4⟩ := ih h2
    refine ⟨(t, q, c) :: rs, by simp [h3], fun j hj => ?_⟩
    cases j with
    | zero => exact ⟨b, o, e1, e3, e4⟩
    | succ j =>
      obtain ⟨b', o', f1, f3, f4⟩ := h4 j (by simpa using hj)
      exact ⟨b', o', f1, by rw [show i + (j + 1) = i + 1 + j by omega]; exact f3, f4⟩
end Go.Proofs.YtmokejjndkibhaaGreatDoor

namespace Go.Proofs.YtmokejjndkibhaaGreatDoor
open Go.RowKit
set_option linter.unusedVariables false
set_option linter.unusedSimpArgs false
open Ex

/-- the expression of an integer -/
def lit (n : Int) : Ex := if n < 0 then .mk 3 1 [] 0 [.mk 1 0 [] (-n) []] else .mk 1 0 [] n []
theorem put5 {W : World} {B : Nat} {c : Array Value} {T : TypeId} {f : Nat × Nat} (h : W.heap[B]? = some (.cells c T f)) (hc : c.size = 5) (x0 x1 x2 x3 x4 : Value) :
    (((((W.setCell ⟨B, 0, none⟩ x0).setCell ⟨B, 1, none⟩ x1).setCell ⟨B, 2, none⟩ x2).setCell ⟨B, 3, none⟩ x3).setCell ⟨B, 4, none⟩ x4).heap[B]? = some (.cells #[x0, x1, x2, x3, x4] T f) ∧
    (∀ n₀, n₀ ≤ B → Below n₀ W (((((W.setCell ⟨B, 0, none⟩ x0).setCell ⟨B, 1, none⟩ x1).setCell ⟨B, 2, none⟩ x2).setCell ⟨B, 3, none⟩ x3).setCell ⟨B, 4, none⟩ x4)) ∧
    (∀ b, b ≠ B → (((((W.setCell ⟨B, 0, none⟩ x0).setCell ⟨B, 1, none⟩ x1).setCell ⟨B, 2, none⟩ x2).setCell ⟨B, 3, none⟩ x3).setCell ⟨B, 4, none⟩ x4).heap[b]? = W.heap[b]?) := by
  refine ⟨?_, fun n₀ hn => ((((((Below.refl n₀ W).setCell (p := ⟨B, 0, none⟩) hn _).setCell (p := ⟨B, 1, none⟩) hn _).setCell (p := ⟨B, 2, none⟩) hn _).setCell (p := ⟨B, 3, none⟩) hn _).setCell (p := ⟨B, 4, none⟩) hn _), fun b hb => ?_⟩
  · obtain ⟨l⟩ := c
    match l, hc with
    | [a0, a1, a2, a3, a4], _ =>
      have h0 : Turn B (.cells #[a0, a1, a2, a3, a4] T f) W W := Turn.refl h
      exact (((((h0.setCell (i := 0) x0).setCell (i := 1) x1).setCell (i := 2) x2).setCell (i := 3) x3).setCell (i := 4) x4).here
  · rw [Below.heap_setCell _ ⟨B, 4, none⟩ _ _ hb, Below.heap_setCell _ ⟨B, 3, none⟩ _ _ hb, Below.heap_setCell _ ⟨B, 2, none⟩ _ _ hb, Below.heap_setCell _ ⟨B, 1, none⟩ _ _ hb, Below.heap_setCell _ ⟨B, 0, none⟩ _ _ hb]
/-- an expression without arguments needs no memory -/
theorem AtB_leaf (S : Nat → Prop) (w : World) (p : Option Addr) {k o : Int} {n : List UInt8} {v : Int} (h : fits (.mk k o n v [])) : AtB S w p (.mk k o n v []) := ⟨h, trivial⟩
theorem fits_num (n : Int) (h1 : -1099511627776 ≤ n) (h2 : n ≤ 1099511627776) : fits (.mk 1 0 [] n []) :=
  ⟨⟨by show _ ≤ (1 : Int); omega, by show (1 : Int) ≤ _; omega⟩, ⟨by show _ ≤ (0 : Int); omega, by show (0 : Int) ≤ _; omega⟩, by show ([] : List UInt8).length ≤ _; simp, ⟨by show _ ≤ n; omega, by show n ≤ _; omega⟩, by show ([] : List Ex).length ≤ _; simp⟩

theorem sV_nil : Value.string { data := #[] } = sV [] := by unfold sV; rw [sB_nil]
theorem lit_at {n₀ : Nat} {W : World} {G : Nat} {n : Int} {t : TypeId} {f : Nat × Nat} (hb : W.heap[G]? = some (.cells #[.int .i64 1, .int .i64 0, sV [], .int .i64 (-n), .slice none 0 0] t f)) (hG : n₀ ≤ G) (h1 : -1099511627776 ≤ n) (h2 : n < 0) :
    AtB (n₀ ≤ ·) W (some ⟨G, 0, none⟩) (.mk 3 1 [] 0 [.mk 1 0 [] (-n) []]) := by
  refine ⟨⟨⟨by show _ ≤ (3 : Int); omega, by show (3 : Int) ≤ _; omega⟩, ⟨by show _ ≤ (1 : Int); omega, by show (1 : Int) ≤ _; omega⟩, by show ([] : List UInt8).length ≤ _; simp, ⟨by show _ ≤ (0 : Int); omega, by show (0 : Int) ≤ _; omega⟩, by show ([Ex.mk 1 0 [] (-n) []] : List Ex).length ≤ _; simp⟩, ⟨⟨G, 0, none, 0, rfl, hG, ?_, AtB_leaf _ _ _ (fits_num (-n) (by omega) (by omega))⟩, trivial⟩⟩
  exact ⟨cell_of hb rfl, cell_of hb rfl, cell_of hb rfl, cell_of hb rfl, cell_of hb rfl⟩

end Go.Proofs.YtmokejjndkibhaaGreatDoor

namespace Go.Proofs.YtmokejjndkibhaaGreatDoor
open Go.RowKit
set_option linter.unusedVariables false
set_option linter.unusedSimpArgs false
open Ex

/-- the constant that e is -/
def cst (e : Ex) : Int × Bool := if (e.ty []).2 ≠ 0 ∨ (e.ty []).1 ≠ 1 then (0, false) else ((e.ev []).1, (e.ev []).2 == 0)
theorem BAt_nil (w : World) : BAt w none [] := ⟨by simp, fun j h => by simp at h⟩
theorem bnds_nil : bnds [] = true := by decide

end Go.Proofs.YtmokejjndkibhaaGreatDoor

namespace Go.Proofs.YtmokejjndkibhaaGreatDoor
open Go.RowKit
set_option linter.unusedVariables false
set_option linter.unusedSimpArgs false
open Ex

mutual
/-- e, its greatest parts that one knows replaced -/
def mp (one : Ex → Option Ex) : Ex → Ex
  | .mk k o n v ts => match one (.mk k o n v ts) with
    | some r => r
    | none => .mk k o n v (mps one ts)
def mps (one : Ex → Option Ex) : List Ex → List Ex
  | [] => []
  | t :: ts => mp one t :: mps one ts
end
theorem mps_map (one : Ex → Option Ex) (ts : List Ex) : mps one ts = ts.map (mp one) := by
  induction ts with
  | nil => rfl
  | cons t ts ih => simp only [mps, List.map_cons, ih]
/-- a function that knows the parts that one knows -/
structure OneFn (one : Ex → Option Ex) (w₀ : World) (K : World → Prop) (fn : FuncId) (cap : Array Value) (Fe : Ex → Prop) : Prop where
  ent : ∀ args w, (callFunc fn args).run Tryz.prog w = .ok (.enter fn args) w
  down : ∀ k o n v ts, Fe (.mk k o n v ts) → ∀ t ∈ ts, Fe t
  keep : ∀ W W', K W → Ext W W' → K W'
  run : ∀ e p c W, Ext w₀ W → K W → Ex.At w₀ p e → Fe e → Calls Tryz.prog fn (#[e.val p c] ++ cap) W fun r w' => Ext W w' ∧ ∃ x q d, r = .returned (.tuple #[x.val q d, .bool (one e).isSome]) ∧
    ∀ y, one e = some y → x = y ∧ AtB (fun b => b < w₀.heap.size ∨ W.heap.size ≤ b) w' q y
/-- the class of blocks of what the elements became -/
def Off (w₀ w : World) (g b : Nat) : Prop := (b < w₀.heap.size ∨ w.heap.size ≤ b) ∧ b ≠ g
/-- a row whose first j elements are replaced -/
def MapInv (f : Ex → Ex) (w₀ w : World) (ts : List Ex) (rs : List XE) (g : Nat) (j : Nat) (rj : List XE) (wr : World) : Prop :=
  rj.length = rs.length ∧ (∀ i (h : i < rj.length) (h2 : i < ts.length), i < j → rj[i].1 = f ts[i] ∧ AtB (Off w₀ w g) wr rj[i].2.1 (f ts[i])) ∧
  (∀ i (h : i < rj.length) (h2 : i < rs.length), j ≤ i → rj[i] = rs[i])
theorem MapInv.start {f : Ex → Ex} {w₀ w : World} {ts : List Ex} {rs : List XE} {g : Nat} {wr : World} : MapInv f w₀ w ts rs g 0 rs wr := ⟨rfl, fun i _ _ h => by omega, fun i _ _ _ => rfl⟩
theorem MapInv.ext {f : Ex → Ex} {w₀ w : World} {ts : List Ex} {rs : List XE} {g j : Nat} {rj : List XE} {wr W : World} (h : MapInv f w₀ w ts rs g j rj wr) (hE : Ext wr W) : MapInv f w₀ w ts rs g j rj W :=
  ⟨h.1, fun i h1 h2 h3 => ⟨(h.2.1 i h1 h2 h3).1, (h.2.1 i h1 h2 h3).2.ext hE⟩, h.2.2⟩
theorem MapInv.step {f : Ex → Ex} {w₀ w : World} {ts : List Ex} {rs : List XE} {g j : Nat} {rj : List XE} {wr W : World} (h : MapInv f w₀ w ts rs g j rj wr) (hj : j < ts.length) (q : Option Addr) (d : Nat)
    (hk : ∀ b, b ≠ g → W.heap[b]? = wr.heap[b]?) (hA : AtB (Off w₀ w g) wr q (f ts[j])) : MapInv f w₀ w ts rs g (j + 1) (rj.set j (f ts[j], q, d)) W := by
  have hK : ∀ {p : Option Addr} {e : Ex}, AtB (Off w₀ w g) wr p e → AtB (Off w₀ w g) W p e := fun h => h.keep (fun b hb _ => ⟨hb, hk b hb.2⟩)
  refine ⟨by rw [List.length_set]; exact h.1, fun i h1 h2 h3 => ?_, fun i h1 h2 h3 => ?_⟩
  · rw [List.length_set] at h1
    by_cases e : j = i
    · subst e; rw [List.getElem_set_self]; exact ⟨rfl, hK hA⟩
    · rw [List.getElem_set_ne e]
      exact ⟨(h.2.1 i h1 h2 (by omega)).1, hK (h.2.1 i h1 h2 (by omega)).2⟩
  · rw [List.length_set] at h1
    rw [List.getElem_set_ne (by omega)]
    exact h.2.2 i h1 h2 (by omega)
/-- all elements are replaced -/
theorem MapInv.done {f : Ex → Ex} {w₀ w : World} {ts : List Ex} {rs : List XE} {g base cap : Nat} {rj : List XE} {wr W : World} {S : Nat → Prop} (h : MapInv f w₀ w ts rs g ts.length rj wr) (hl : rs.length = ts.length)
    (hrow : RowE base (.slice (some ⟨g, 0, none⟩) rj.length cap) rj wr) {k o v : Int} {n : List UInt8} (hf : fits (.mk k o n v ts)) (hS : S g) (hk : ∀ b, b = g ∨ Off w₀ w g b → b < wr.heap.size → W.heap[b]? = wr.heap[b]?) (hSS : ∀ b, Off w₀ w g b → S b) :
    AtB S W (some ⟨g, 0, none⟩) (.mk k o n v (ts.map f)) := by
  have hgl : g < wr.heap.size := (World.ownsRow.lt hrow g rfl).2
  refine ⟨?_, AtBL.of_get (fun _ => hS) (fun i hi => ?_)⟩
  · obtain ⟨f1, f2, f3, f4, f5⟩ := hf
    refine ⟨f1, f2, f3, f4, ?_⟩
    show (ts.map f).length ≤ _
    rw [List.length_map]; exact f5
  · rw [List.length_map] at hi
    have hi2 : i < rj.length := by rw [h.1, hl]; exact hi
    obtain ⟨e1, e2⟩ := h.2.1 i hi2 hi hi
    refine ⟨rj[i].2.1, rj[i].2.2, ?_, ?_⟩
    · rw [List.getElem_map, ← e1, Nat.zero_add, Nat.zero_add]
      exact (RowE.cells hrow i hi2).block (hk g (.inl rfl) hgl)
    · rw [List.getElem_map]
      exact e2.keep (fun b hb hb2 => ⟨hSS b hb, hk b (.inr hb) hb2⟩)
end Go.Proofs.YtmokejjndkibhaaGreatDoor

namespace Go.Proofs.YtmokejjndkibhaaGreatDoor
open Go.RowKit
set_option linter.unusedVariables false
set_option linter.unusedSimpArgs false
open Ex

theorem opE_err {k x y : Int} (h : (opE k x y).2 ≠ 0) : (opE k x y).1 = 0 := by
  unfold opE at h ⊢
  by_cases h1 : (opR k x y).2 = 0
  · rw [if_neg (by simp [h1])] at h ⊢
    by_cases h2 : inM (opR k x y).1
    · rw [if_pos h2] at h; exact absurd rfl h
    · rw [if_neg h2]
  · rw [if_pos h1]
theorem ev_err {bs : List Bn} {e : Ex} (h : (e.ev bs).2 ≠ 0) : (e.ev bs).1 = 0 := by
  obtain ⟨k, o, n, v, ts⟩ := e
  simp only [Ex.ev] at h ⊢
  by_cases h1 : (Ex.evs bs ts).1 = 0
  · rw [if_neg (by simp [h1])] at h ⊢
    unfold evN at h ⊢
    by_cases hk1 : k = 1
    · rw [if_pos hk1] at h; exact absurd rfl h
    · rw [if_neg hk1] at h ⊢
      by_cases hk2 : k = 2
      · rw [if_pos hk2] at h; exact absurd rfl h
      · rw [if_neg hk2] at h ⊢
        by_cases hk3 : k = 3
        · rw [if_pos hk3] at h; exact absurd rfl h
        · rw [if_neg hk3] at h ⊢; exact opE_err h
  · rw [if_pos h1]
theorem cst_bd {e : Ex} (hfe : e.fe = 0) : inM (cst e).1 := by
  unfold cst
  by_cases h : (e.ty []).2 ≠ 0 ∨ (e.ty []).1 ≠ 1
  · rw [if_pos h]; decide
  · rw [if_neg h]
    have h1 : (e.ty []).2 = 0 := Decidable.byContradiction fun h1 => h (.inl h1)
    have hs := ev_sound bnds_nil e.size e (Nat.le_refl _) hfe (e.ty []).1 (by rw [← h1])
    by_cases h2 : (e.ev []).2 = 0
    · exact (hs.2 (e.ev []).1 (by rw [← h2])).1
    · show inM (e.ev []).1
      rw [ev_err h2]; decide
/-- what Fold makes of a part -/
def foldOne (e : Ex) : Option Ex := if (cst e).2 then some (lit (cst e).1) else none
theorem put5b {W : World} {B : Nat} {a0 a1 a2 a3 a4 : Value} {T : TypeId} {f : Nat × Nat} (h : W.heap[B]? = some (.cells #[a0, a1, a2, a3, a4] T f)) (x0 x1 x2 x3 x4 : Value) :
    ∃ V, (((((W.setCell ⟨B, 0, none⟩ x0).setCell ⟨B, 1, none⟩ x1).setCell ⟨B, 2, none⟩ x2).setCell ⟨B, 3, none⟩ x3).setCell ⟨B, 4, none⟩ x4) = V ∧ V.cell? ⟨B, 0, none⟩ = some x0 ∧ V.cell? ⟨B, 1, none⟩ = some x1 ∧ V.cell? ⟨B, 2, none⟩ = some x2 ∧ V.cell? ⟨B, 3, none⟩ = some x3 ∧ V.cell? ⟨B, 4, none⟩ = some x4 ∧
    (∀ n₀, n₀ ≤ B → Below n₀ W V) ∧ (∀ b, b ≠ B → V.heap[b]? = W.heap[b]?) := by
  obtain ⟨h3, h4, h5⟩ := put5 h rfl x0 x1 x2 x3 x4
  exact ⟨_, rfl, cell_of h3 rfl, cell_of h3 rfl, cell_of h3 rfl, cell_of h3 rfl, cell_of h3 rfl, h4, h5⟩
/-- the cells of a box of five in a later world -/
theorem box5 {W : World} {B : Nat} {a0 a1 a2 a3 a4 : Value} {T : TypeId} (h : W.heap[B]? = some (.cells #[a0, a1, a2, a3, a4] T (0, 0))) :
    W.cell? ⟨B, 0, none⟩ = some a0 ∧ W.cell? ⟨B, 1, none⟩ = some a1 ∧ W.cell? ⟨B, 2, none⟩ = some a2 ∧ W.cell? ⟨B, 3, none⟩ = some a3 ∧ W.cell? ⟨B, 4, none⟩ = some a4 ∧ (∀ i, W.frozen? ⟨B, i, none⟩ = false) :=
  ⟨cell_of h rfl, cell_of h rfl, cell_of h rfl, cell_of h rfl, cell_of h rfl, fun i => free_of h⟩

/-- two boxes laid one after the other -/
theorem two_boxes (w : World) (a0 a1 a2 a3 a4 b0 b1 b2 b3 b4 : Value) (T : TypeId) :
    ((w.alloc (.cells #[a0, a1, a2, a3, a4] T)).alloc (.cells #[b0, b1, b2, b3, b4] T)).heap[w.heap.size]? = some (.cells #[a0, a1, a2, a3, a4] T (0, 0)) ∧
    ((w.alloc (.cells #[a0, a1, a2, a3, a4] T)).alloc (.cells #[b0, b1, b2, b3, b4] T)).heap[w.heap.size + 1]? = some (.cells #[b0, b1, b2, b3, b4] T (0, 0)) ∧
    Ext w ((w.alloc (.cells #[a0, a1, a2, a3, a4] T)).alloc (.cells #[b0, b1, b2, b3, b4] T)) := by
  refine ⟨(Below.heap_alloc _ _ w.heap.size (by simp)).trans (alloc_here _ _), ?_, ((Below.refl _ w).alloc (Nat.le_refl _) _).alloc (by simp) _⟩
  have h := alloc_here (w.alloc (.cells #[a0, a1, a2, a3, a4] T)) (.cells #[b0, b1, b2, b3, b4] T)
  rw [World.size_alloc] at h; exact h

end Go.Proofs.YtmokejjndkibhaaGreatDoor

